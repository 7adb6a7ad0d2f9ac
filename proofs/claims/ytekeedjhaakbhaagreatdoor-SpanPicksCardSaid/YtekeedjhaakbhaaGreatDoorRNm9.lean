/- Norm of the document. -/
import Derived.Test.YtekeedjhaakbhaaGreatDoorRnO9
import Derived.Deep.DeepCutAuto
import Derived.Test.YtekeedjhaakbhaaGreatDoorTail
namespace Go.Proofs.YtekeedjhaakbhaaGreatDoor
open Go Go.RowKit
/-- the row of spans with both ends -/
structure InsI (w wr : World) (v : Value) (ks : List Cl) : Prop where
  o : wr.ownsRow w.heap.size 37 12 v ks.length (encS (ks.map rawS))
  b : Below w.heap.size w wr
theorem InsI.drop {w wr w1 : World} {v : Value} {ks : List Cl} (h : InsI w wr v ks) (hb : Below wr.heap.size wr w1) : InsI w w1 v ks :=
  ⟨own_below h.o hb, h.b.trans (below_weak hb h.b.size)⟩
theorem InsI.row {w wr : World} {v : Value} {ks : List Cl} (h : InsI w wr v ks) : ∃ a c, v = .slice a ks.length c ∧ SRow wr a ks.length c (nthS (ks.map rawS)) := by
  have h' : wr.ownsRow w.heap.size 37 12 v (ks.map rawS).length (encS (ks.map rawS)) := by rw [List.length_map]; exact h.o
  have := own_row h' rawS_lt
  rwa [List.length_map] at this
theorem nth_raw {ks : List Cl} {i : Nat} {y : Cl} (h : ks[i]? = some y) : nthS (ks.map rawS) i = rawS y := by
  unfold nthS
  rw [List.getD_eq_getElem?_getD, List.getElem?_map, h]
  rfl
theorem cmz_gt {p q z : Int} (hz : cmpI (sg p) (ab p) (sg q) (ab q) = z) : 0 < z ↔ q < p := by
  rw [cmpI_sg] at hz
  subst hz
  unfold cmpZ
  split
  · omega
  · split <;> omega
theorem cmz_le {p q z : Int} (hz : cmpI (sg p) (ab p) (sg q) (ab q) = z) : z ≤ 0 ↔ p ≤ q := by
  have := cmz_gt hz
  omega
theorem rowL_list {L : List Sp} {i m : Nat} (h : i + m ≤ L.length) : rowL (nthS L) i m = (L.drop i).take m := by
  refine List.ext_getElem? fun j => ?_
  unfold rowL
  rw [List.getElem?_map, List.getElem?_take]
  by_cases hj : j < m
  · rw [if_pos hj, List.getElem?_range hj, List.getElem?_drop, nth_get (show i + j < L.length by omega)]
    rfl
  · rw [if_neg hj, List.getElem?_eq_none (by rw [List.length_range]; omega)]
    rfl
theorem ins_rows {ks : List Cl} {j : Nat} {x : Cl} (hj : j ≤ ks.length) : rowL (nthS (ks.map rawS)) 0 j ++ [rawS x] ++ rowL (nthS (ks.map rawS)) j (ks.length - j) = (insK ks j x).map rawS := by
  rw [rowL_list (by rw [List.length_map]; omega), rowL_list (by rw [List.length_map]; omega)]
  unfold insK
  rw [List.map_append, List.map_cons, List.map_take, List.map_drop, List.drop_zero, List.take_of_length_le (l := (ks.map rawS).drop j) (by rw [List.length_drop, List.length_map]; exact Nat.le_refl _)]
  simp
theorem raw_lit {w : World} {a : Option Addr} {n c i : Nat} {ks : List Cl} {y : Cl} (h : SRow w a n c (nthS (ks.map rawS))) (hi : i < n) (hy : ks[i]? = some y) :
    ∃ (b off : Nat), a = some ⟨b, off, none⟩ ∧ b < w.heap.size ∧
      R12 w b (off + i * 12) (.bool false) (.bool false) (.bool (sg y.lo)) (.int .u64 (lm (ab y.lo) 0 : Nat)) (.int .u64 (lm (ab y.lo) 1 : Nat)) (.int .u64 (lm (ab y.lo) 2 : Nat)) (.int .u64 (lm (ab y.lo) 3 : Nat)) (.bool (sg y.hi)) (.int .u64 (lm (ab y.hi) 0 : Nat)) (.int .u64 (lm (ab y.hi) 1 : Nat)) (.int .u64 (lm (ab y.hi) 2 : Nat)) (.int .u64 (lm (ab y.hi) 3 : Nat)) := by
  obtain ⟨b, off, hl, hh, nl, vl, nh, vh, e, hb, hs, hc, -⟩ := sp_lit h hi (Below.refl _ _)
  rw [nth_raw hy] at hs
  unfold rawS at hs
  injection hs with s1 s2 s3 s4 s5 s6
  subst s1 s2 s3 s4 s5 s6
  exact ⟨b, off, e, hb, hc⟩
section
variable {base : Nat} {W : World}
theorem row_e (hb : base ≤ W.heap.size) : (W.alloc (.cells #[] 37)).ownsRow base 37 12 (.slice (some ⟨W.heap.size, 0, none⟩) 0 0) 0 [] := World.ownsRow_lit W #[] 0 hb (by decide) rfl
theorem row_x (v0 v1 v2 v3 v4 v5 v6 v7 v8 v9 va vb : Value) (hb : base ≤ W.heap.size) : (W.alloc (.cells #[v0, v1, v2, v3, v4, v5, v6, v7, v8, v9, va, vb] 37)).ownsRow base 37 12 (.slice (some ⟨W.heap.size, 0, none⟩) 1 1) 1 [v0, v1, v2, v3, v4, v5, v6, v7, v8, v9, va, vb] := World.ownsRow_lit W #[v0, v1, v2, v3, v4, v5, v6, v7, v8, v9, va, vb] 1 hb (by decide) rfl
theorem row_ne {g h n m c d : Nat} (hne : g ≠ h) : (Value.slice (some ⟨g, 0, none⟩) n c).ownBlock = none ∨ (Value.slice (some ⟨g, 0, none⟩) n c).ownBlock ≠ (Value.slice (some ⟨h, 0, none⟩) m d).ownBlock := .inr fun e => hne (Option.some.inj e)
theorem row_drew {B T z n : Nat} {v : Value} {xs : List Value} (h : W.ownsRow B T z v n xs) : W.drew.ownsRow B T z v n xs := h
theorem src_row {B T n : Nat} {v : Value} {xs : List Value} (h : W.ownsRow B T 12 v n xs) (h1 : ∀ u ∈ xs, u.oneCell' = true) (hn : 0 < n) : SrcOk W v n 12 xs := by
  have hl := h.1
  rcases h.2 with ⟨rfl, h0⟩ | ⟨g, cap, cur, rfl, -⟩
  · omega
  · refine .inl ⟨_, cap, rfl, hl, fun j u hj => ?_, h1⟩
    have hlt : j < n * 12 := by
      rw [← hl]
      exact (List.getElem?_eq_some_iff.1 hj).1
    rw [addr0, h.cellAt j hlt]
    exact hj
end
theorem ins_done {w wc : World} {B0 j N : Nat} {v : Value} {ks : List Cl} {x : Cl} {cx : List Value} (h : wc.ownsRow B0 37 12 v (0 + j + 1 + (N - j)) ([] ++ encS (rowL (nthS (ks.map rawS)) 0 j) ++ cx ++ encS (rowL (nthS (ks.map rawS)) j (N - j)))) (hN : N = ks.length) (hj : j ≤ N) (hc : (rawS x).cells = cx)
    (hb : w.heap.size ≤ B0) (hB : Below w.heap.size w wc) : InsI w wc v (insK ks j x) := by
  subst hN hc
  have e := ins_rows (x := x) hj
  refine ⟨?_, hB⟩
  rw [← e, encS_app, encS_app, insK_len]
  rw [show ks.length + 1 = 0 + j + 1 + (ks.length - j) by omega]
  refine h.mono hb
theorem ins_cells {x : Cl} {ln un : Bool} {lv uv : Nat} (h : ln = sg x.lo ∧ lv = ab x.lo ∧ un = sg x.hi ∧ uv = ab x.hi) : (rawS x).cells = [.bool false, .bool false, .bool ln, .int .u64 (lm lv 0 : Nat), .int .u64 (lm lv 1 : Nat), .int .u64 (lm lv 2 : Nat), .int .u64 (lm lv 3 : Nat), .bool un, .int .u64 (lm uv 0 : Nat), .int .u64 (lm uv 1 : Nat), .int .u64 (lm uv 2 : Nat), .int .u64 (lm uv 3 : Nat)] := by
  obtain ⟨rfl, rfl, rfl, rfl⟩ := h
  rfl
theorem encS_snoc (l : List Sp) (s : Sp) : encS (l ++ [s]) = encS l ++ s.cells := by unfold encS; rw [List.flatMap_append]; simp
theorem set12_app {α : Type} (a b : List α) (n : Nat) (hn : a.length = n) (v0 v1 v2 v3 v4 : α) :
    (((((a ++ b).set (n + 7) v0).set (n + 8) v1).set (n + 9) v2).set (n + 10) v3).set (n + 11) v4 = a ++ (((((b.set 7 v0).set 8 v1).set 9 v2).set 10 v3).set 11 v4) := by
  subst hn
  simp [List.set_append_right]
theorem InsI.keep {w wr wg w2 : World} {m : Nat} {v v' : Value} {ks : List Cl} {x : Cl} (h : InsI w wr v ks) (hb : Below wr.heap.size wr wg) (hm : m = ks.length + 1)
    (h2 : w2.ownsRow w.heap.size 37 12 v' m (encS (ks.map rawS) ++ (rawS x).cells)) (hg : wg.grownBy w2 v.ownBlock) : InsI w w2 v' (ks ++ [x]) := by
  subst hm
  have hs := h.b.size
  refine ⟨?_, (h.b.trans (below_weak hb hs)).grown hg (by have := hb.size; omega) (fun k hk => (h.o.lt _ hk).1)⟩
  rw [List.length_append, List.map_append, List.map_singleton, encS_snoc]
  exact h2
theorem InsI.put {w wr : World} {g n cap m : Nat} {ks : List Cl} {y x : Cl} (h : InsI w wr (.slice (some ⟨g, 0, none⟩) n cap) (ks ++ [y])) (hm : m = ks.length) (hn : n = m + 1) (hx : y.hi < x.hi) :
    InsI w (((((wr.setCell ⟨g, m * 12 + 7, none⟩ (.bool (sg x.hi))).setCell ⟨g, m * 12 + 8, none⟩ (.int .u64 (lm (ab x.hi) 0 : Nat))).setCell ⟨g, m * 12 + 9, none⟩ (.int .u64 (lm (ab x.hi) 1 : Nat))).setCell ⟨g, m * 12 + 10, none⟩ (.int .u64 (lm (ab x.hi) 2 : Nat))).setCell ⟨g, m * 12 + 11, none⟩ (.int .u64 (lm (ab x.hi) 3 : Nat)))
      (.slice (some ⟨g, 0, none⟩) n cap) (ks ++ [y.upTo x]) := by
  subst hm hn
  have hg : w.heap.size ≤ g := (h.o.lt g rfl).1
  have ho := h.o
  rw [List.length_append, List.map_append, List.map_singleton, encS_snoc] at ho
  obtain ⟨o1, g1⟩ := ho.stored (ks.length * 12 + 7) (.bool (sg x.hi))
  obtain ⟨o2, g2⟩ := o1.stored (ks.length * 12 + 8) (.int .u64 (lm (ab x.hi) 0 : Nat))
  obtain ⟨o3, g3⟩ := o2.stored (ks.length * 12 + 9) (.int .u64 (lm (ab x.hi) 1 : Nat))
  obtain ⟨o4, g4⟩ := o3.stored (ks.length * 12 + 10) (.int .u64 (lm (ab x.hi) 2 : Nat))
  obtain ⟨o5, g5⟩ := o4.stored (ks.length * 12 + 11) (.int .u64 (lm (ab x.hi) 3 : Nat))
  rw [set12_app _ _ _ (by rw [encS_len, List.length_map])] at o5
  refine ⟨?_, ?_⟩
  · rw [List.length_append, List.map_append, List.map_singleton, encS_snoc]
    have e : (rawS (y.upTo x)).cells = (((((rawS y).cells.set 7 (.bool (sg x.hi))).set 8 (.int .u64 (lm (ab x.hi) 0 : Nat))).set 9 (.int .u64 (lm (ab x.hi) 1 : Nat))).set 10 (.int .u64 (lm (ab x.hi) 2 : Nat))).set 11 (.int .u64 (lm (ab x.hi) 3 : Nat)) := by
      have e1 : (y.upTo x).hi = x.hi := if_pos hx
      unfold rawS Sp.cells
      rw [e1]
      rfl
    rw [e]
    exact o5
  · have hs := h.b.size
    exact ((((h.b.grown g1 hs (fun k hk => by cases hk; exact hg)).grown g2 (by simp; omega) (fun k hk => by cases hk; exact hg)).grown g3 (by simp; omega) (fun k hk => by cases hk; exact hg)).grown g4 (by simp; omega) (fun k hk => by cases hk; exact hg)).grown g5 (by simp; omega) (fun k hk => by cases hk; exact hg)
theorem raw_last {w : World} {B : Nat} {v : Value} {js : List Cl} {y : Cl} (h : w.ownsRow B 37 12 v (js ++ [y]).length (encS ((js ++ [y]).map rawS))) :
    ∃ (g cap : Nat), v = .slice (some ⟨g, 0, none⟩) (js ++ [y]).length cap ∧ g < w.heap.size ∧ B ≤ g ∧ (js ++ [y]).length ≤ cap ∧ cap ≤ maxLen ∧
      R12 w g (js.length * 12) (.bool false) (.bool false) (.bool (sg y.lo)) (.int .u64 (lm (ab y.lo) 0 : Nat)) (.int .u64 (lm (ab y.lo) 1 : Nat)) (.int .u64 (lm (ab y.lo) 2 : Nat)) (.int .u64 (lm (ab y.lo) 3 : Nat)) (.bool (sg y.hi)) (.int .u64 (lm (ab y.hi) 0 : Nat)) (.int .u64 (lm (ab y.hi) 1 : Nat)) (.int .u64 (lm (ab y.hi) 2 : Nat)) (.int .u64 (lm (ab y.hi) 3 : Nat)) := by
  rcases h.2 with ⟨-, h0⟩ | ⟨g, cap, cur, rfl, hB, hg, hc, hm, -⟩
  · rw [List.length_append] at h0
    cases h0
  · have hl : (js ++ [y]).length = js.length + 1 := by simp
    have hw : ∀ j, j < 12 → w.cell? ⟨g, js.length * 12 + j, none⟩ = (rawS y).cells[j]? := fun j hj => by
      rw [h.cellAt (js.length * 12 + j) (by omega), encS_get _ js.length j (by rw [List.length_map]; omega) hj, nth_raw (show (js ++ [y])[js.length]? = some y from by simp)]
    exact ⟨g, cap, rfl, (Array.getElem?_eq_some_iff.1 hg).1, hB, hc, hm, ⟨⟨hw 0 (by omega), hw 1 (by omega), hw 2 (by omega), hw 3 (by omega), hw 4 (by omega), hw 5 (by omega), hw 6 (by omega), hw 7 (by omega), hw 8 (by omega), hw 9 (by omega), hw 10 (by omega), hw 11 (by omega)⟩⟩⟩
/-- what the last loop has made of the row -/
structure MixI (w wr : World) (v : Value) (js : List Cl) (i : Nat) : Prop where
  o : wr.ownsRow w.heap.size 37 12 v js.length (encS ((js.take i).map opS ++ (js.drop i).map rawS))
  b : Below w.heap.size w wr
theorem MixI.drop {w wr w1 : World} {v : Value} {js : List Cl} {i : Nat} (h : MixI w wr v js i) (hb : Below wr.heap.size wr w1) : MixI w w1 v js i :=
  ⟨own_below h.o hb, h.b.trans (below_weak hb h.b.size)⟩
theorem mix_at {js : List Cl} {i : Nat} {x : Cl} (hx : js[i]? = some x) : (js.take i).map opS ++ (js.drop i).map rawS = (js.take i).map opS ++ (rawS x :: (js.drop (i + 1)).map rawS) := by
  rw [drop_at hx, List.map_cons]
theorem mix_nth {js : List Cl} {i : Nat} {x : Cl} (hx : js[i]? = some x) : nthS ((js.take i).map opS ++ (js.drop i).map rawS) i = rawS x := by
  have hl : ((js.take i).map opS).length = i := by
    rw [List.length_map, List.length_take]
    have := (List.getElem?_eq_some_iff.1 hx).1
    omega
  rw [mix_at hx]
  unfold nthS
  rw [List.getD_eq_getElem?_getD, List.getElem?_append_right (by omega), hl, Nat.sub_self]
  rfl
theorem MixI.lit {w wr : World} {v : Value} {js : List Cl} {i : Nat} {x : Cl} (h : MixI w wr v js i) (hx : js[i]? = some x) :
    ∃ (g cap : Nat), v = .slice (some ⟨g, 0, none⟩) js.length cap ∧ g < wr.heap.size ∧ (∀ j, wr.frozen? ⟨g, j, none⟩ = false) ∧
      R12 wr g (i * 12) (.bool false) (.bool false) (.bool (sg x.lo)) (.int .u64 (lm (ab x.lo) 0 : Nat)) (.int .u64 (lm (ab x.lo) 1 : Nat)) (.int .u64 (lm (ab x.lo) 2 : Nat)) (.int .u64 (lm (ab x.lo) 3 : Nat)) (.bool (sg x.hi)) (.int .u64 (lm (ab x.hi) 0 : Nat)) (.int .u64 (lm (ab x.hi) 1 : Nat)) (.int .u64 (lm (ab x.hi) 2 : Nat)) (.int .u64 (lm (ab x.hi) 3 : Nat)) := by
  have hi := (List.getElem?_eq_some_iff.1 hx).1
  have ho := h.o
  rcases ho.2 with ⟨-, h0⟩ | ⟨g, cap, cur, rfl, hB, hg, hc, hm, -⟩
  · omega
  · have hL : ((js.take i).map opS ++ (js.drop i).map rawS).length = js.length := by
      rw [List.length_append, List.length_map, List.length_map, ← List.length_append, List.take_append_drop]
    have hw : ∀ j, j < 12 → wr.cell? ⟨g, i * 12 + j, none⟩ = (rawS x).cells[j]? := fun j hj => by
      rw [ho.cellAt (i * 12 + j) (by omega), encS_get _ i j (by omega) hj, mix_nth hx]
    exact ⟨g, cap, rfl, (Array.getElem?_eq_some_iff.1 hg).1, fun j => ho.frozenAt j, ⟨⟨hw 0 (by omega), hw 1 (by omega), hw 2 (by omega), hw 3 (by omega), hw 4 (by omega), hw 5 (by omega), hw 6 (by omega), hw 7 (by omega), hw 8 (by omega), hw 9 (by omega), hw 10 (by omega), hw 11 (by omega)⟩⟩⟩
theorem set12_all {α : Type} (a d : List α) (n : Nat) (hn : a.length = n) (v0 v1 v2 v3 v4 v5 v6 v7 v8 v9 va vb c0 c1 c2 c3 c4 c5 c6 c7 c8 c9 ca cb : α) : (((((((((((((a ++ ([c0, c1, c2, c3, c4, c5, c6, c7, c8, c9, ca, cb] ++ d)).set (n) v0).set (n + 1) v1).set (n + 2) v2).set (n + 3) v3).set (n + 4) v4).set (n + 5) v5).set (n + 6) v6).set (n + 7) v7).set (n + 8) v8).set (n + 9) v9).set (n + 10) va).set (n + 11) vb) = a ++ ([v0, v1, v2, v3, v4, v5, v6, v7, v8, v9, va, vb] ++ d) := by
  subst hn
  simp [List.set_append_right]
set_option maxHeartbeats 1000000 in
theorem MixI.put {w wr : World} {g n cap i vl vh : Nat} {js : List Cl} {x : Cl} {hl hh nl nh : Bool} (h : MixI w wr (.slice (some ⟨g, 0, none⟩) n cap) js i) (hn : n = js.length) (hx : js[i]? = some x) (hs : opS x = ⟨hl, hh, nl, vl, nh, vh⟩) :
    MixI w ((((((((((((wr.setCell ⟨g, i * 12, none⟩ (.bool hl)).setCell ⟨g, i * 12 + 1, none⟩ (.bool hh)).setCell ⟨g, i * 12 + 2, none⟩ (.bool nl)).setCell ⟨g, i * 12 + 3, none⟩ (.int .u64 (lm vl 0 : Nat))).setCell ⟨g, i * 12 + 4, none⟩ (.int .u64 (lm vl 1 : Nat))).setCell ⟨g, i * 12 + 5, none⟩ (.int .u64 (lm vl 2 : Nat))).setCell ⟨g, i * 12 + 6, none⟩ (.int .u64 (lm vl 3 : Nat))).setCell ⟨g, i * 12 + 7, none⟩ (.bool nh)).setCell ⟨g, i * 12 + 8, none⟩ (.int .u64 (lm vh 0 : Nat))).setCell ⟨g, i * 12 + 9, none⟩ (.int .u64 (lm vh 1 : Nat))).setCell ⟨g, i * 12 + 10, none⟩ (.int .u64 (lm vh 2 : Nat))).setCell ⟨g, i * 12 + 11, none⟩ (.int .u64 (lm vh 3 : Nat))) (.slice (some ⟨g, 0, none⟩) n cap) js (i + 1) := by
  subst hn
  have hg : w.heap.size ≤ g := (h.o.lt g rfl).1
  have hi := (List.getElem?_eq_some_iff.1 hx).1
  have hlen : (encS ((js.take i).map opS)).length = i * 12 := by
    rw [encS_len, List.length_map, List.length_take]
    congr 1
    omega
  have ho := h.o
  rw [mix_at hx, encS_app, show encS (rawS x :: (js.drop (i + 1)).map rawS) = (rawS x).cells ++ encS ((js.drop (i + 1)).map rawS) from rfl] at ho
  obtain ⟨o0, g0⟩ := ho.stored (i * 12) (.bool hl)
  obtain ⟨o1, g1⟩ := o0.stored (i * 12 + 1) (.bool hh)
  obtain ⟨o2, g2⟩ := o1.stored (i * 12 + 2) (.bool nl)
  obtain ⟨o3, g3⟩ := o2.stored (i * 12 + 3) (.int .u64 (lm vl 0 : Nat))
  obtain ⟨o4, g4⟩ := o3.stored (i * 12 + 4) (.int .u64 (lm vl 1 : Nat))
  obtain ⟨o5, g5⟩ := o4.stored (i * 12 + 5) (.int .u64 (lm vl 2 : Nat))
  obtain ⟨o6, g6⟩ := o5.stored (i * 12 + 6) (.int .u64 (lm vl 3 : Nat))
  obtain ⟨o7, g7⟩ := o6.stored (i * 12 + 7) (.bool nh)
  obtain ⟨o8, g8⟩ := o7.stored (i * 12 + 8) (.int .u64 (lm vh 0 : Nat))
  obtain ⟨o9, g9⟩ := o8.stored (i * 12 + 9) (.int .u64 (lm vh 1 : Nat))
  obtain ⟨o10, g10⟩ := o9.stored (i * 12 + 10) (.int .u64 (lm vh 2 : Nat))
  obtain ⟨o11, g11⟩ := o10.stored (i * 12 + 11) (.int .u64 (lm vh 3 : Nat))
  unfold Sp.cells at o11
  rw [set12_all _ _ _ hlen] at o11
  refine ⟨?_, ?_⟩
  · have e : (js.take (i + 1)).map opS ++ (js.drop (i + 1)).map rawS = (js.take i).map opS ++ ((opS x) :: (js.drop (i + 1)).map rawS) := by
      rw [List.take_add_one, hx, List.map_append, List.append_assoc]
      rfl
    rw [e, encS_app, show encS (opS x :: (js.drop (i + 1)).map rawS) = (opS x).cells ++ encS ((js.drop (i + 1)).map rawS) from rfl, hs]
    exact o11
  · have hs := h.b.size
    exact (((((((((((h.b.grown g0 hs (fun k hk => by cases hk; exact hg)).grown g1 (by simp; omega) (fun k hk => by cases hk; exact hg)).grown g2 (by simp; omega) (fun k hk => by cases hk; exact hg)).grown g3 (by simp; omega) (fun k hk => by cases hk; exact hg)).grown g4 (by simp; omega) (fun k hk => by cases hk; exact hg)).grown g5 (by simp; omega) (fun k hk => by cases hk; exact hg)).grown g6 (by simp; omega) (fun k hk => by cases hk; exact hg)).grown g7 (by simp; omega) (fun k hk => by cases hk; exact hg)).grown g8 (by simp; omega) (fun k hk => by cases hk; exact hg)).grown g9 (by simp; omega) (fun k hk => by cases hk; exact hg)).grown g10 (by simp; omega) (fun k hk => by cases hk; exact hg)).grown g11 (by simp; omega) (fun k hk => by cases hk; exact hg)
theorem ROf_lit {x : Cl} {hl hh nl nh : Bool} {vl vh : Nat} (hs : opS x = ⟨hl, hh, nl, vl, nh, vh⟩) (w : World) : Calls Tryz.prog 44 #[.agg #[.bool (sg x.lo ), .int .u64 (lm ( ab x.lo) 0 : Nat), .int .u64 (lm ( ab x.lo) 1 : Nat), .int .u64 (lm ( ab x.lo) 2 : Nat), .int .u64 (lm ( ab x.lo) 3 : Nat)], .agg #[.bool (sg x.hi ), .int .u64 (lm ( ab x.hi) 0 : Nat), .int .u64 (lm ( ab x.hi) 1 : Nat), .int .u64 (lm ( ab x.hi) 2 : Nat), .int .u64 (lm ( ab x.hi) 3 : Nat)]] w fun e w' => e = .returned (.agg #[.bool hl, .bool hh, .bool nl, .int .u64 (lm vl 0 : Nat), .int .u64 (lm vl 1 : Nat), .int .u64 (lm vl 2 : Nat), .int .u64 (lm vl 3 : Nat), .bool nh, .int .u64 (lm vh 0 : Nat), .int .u64 (lm vh 1 : Nat), .int .u64 (lm vh 2 : Nat), .int .u64 (lm vh 3 : Nat)]) ∧ Below w.heap.size w w' := by
  have h := ROf_any x w
  rw [hs] at h
  exact h
set_option maxRecDepth 20000 in
set_option maxHeartbeats 8000000 in
/-- **Norm** of the document. -/
theorem RNorm_any (a : Option Addr) (n c : Nat) (S : Nat → Sp) (w : World) (h : SRow w a n c S) (hn : n ≤ 1000000) :
    Calls Tryz.prog 18 #[.slice a n c] w fun e w' => ∃ v, e = .returned v ∧ SOut (fun z => mayR S n = true ∧ InS S n z) n w v w' := by
  have H := Lib.hid h
  obtain ⟨R, hR⟩ : ∃ R, R = mayR S n := ⟨_, rfl⟩
  have M := Lib.hid fun wx (hx : SRow wx a n c S) => RMayS_any a n c S wx hx
  rw [← hR] at M
  have HR := Lib.hid hR
  obtain ⟨i0, hi, hz0, hz1, hz2⟩ := info_parts infoS
  clear h hR
  go_enter Tryz.func18, Tryz.ntmps18
  cases R with
  | false =>
    repeat any_goals (first | (go_at_call 42; with_reducible refine (M.out _ H.out).mono ?_; rintro e w1 ⟨rfl, hb1⟩) | go_skip | go_guarded | go_step | go_upon | (dsimp only []))
    exact bodyPost_ret (v := .slice none 0 0) (by simp [results, Tryz.results18, go_sem]) rfl ⟨_, rfl, [], SetF.nil (fun z hz => by rw [← HR.out] at hz; cases hz.1), Nat.zero_le _, World.ownsRow_nil _ _ _ _, by (repeat first | with_reducible exact Below.refl _ _ | with_reducible assumption | with_reducible refine Below.drew ?_ | with_reducible refine below_alloc ?_ _ | ((with_reducible refine Below.setCell ?_ ?_ _); rotate_left; (focus (first | with_reducible exact Nat.le_refl _ | (simp; done) | (simp; omega) | omega))) | (with_reducible refine below_trans ?_ (by assumption)))⟩
  | true =>
    repeat any_goals (first | (go_at_call 42; with_reducible refine (M.out _ H.out).mono ?_; rintro e w1 ⟨rfl, hb1⟩) | go_skip | go_guarded | go_step | go_upon | (dsimp only []))
    go_loopw [3, 4] (fun v i wr => ∃ (k : Nat) (ks : List Cl), k ≤ n ∧ i = .int .i64 k ∧ InsP S k ks ∧ InsI w wr v ks ∧ (ks = [] → v = .slice none 0 0)) (fun _ i _ => n - (intOf i).toNat)
    case atStart => exact ⟨0, [], Nat.zero_le _, rfl, InsP_zero S, ⟨World.ownsRow_nil _ _ _ _, hb1⟩, fun _ => rfl⟩
    case round =>
      obtain ⟨k, ks, hk, rfl, P, I, hnil⟩ := hrel
      have NIL := Lib.hid hnil
      clear hnil
      have IH := Lib.hid I
      have PH := Lib.hid P
      clear I P
      by_cases hkn : k < n
      · obtain ⟨b, off, hl, hh, nl, vl, nh, vh, rfl, hb, hs, hc, hvl, hvh⟩ := sp_lit H.out hkn IH.out.b
        obtain ⟨x, hx1, hx2⟩ : ∃ x : Cl, x.lo = (S k).iv.1 ∧ x.hi = (S k).iv.2 := ⟨clS (S k) (H.out.o k hkn), rfl, rfl⟩
        have hm := ends_may (mayR_i HR.out.symm hkn)
        have hiv := ends_iv (S k)
        rw [← hx1, ← hx2] at hiv
        rw [hs] at hm hiv
        simp only at hm hiv
        have en1 : eln hl nl = sg x.lo := by rw [← hiv.1, sg_zI hm.1]
        have ev1 : elv hl vl = ab x.lo := by rw [← hiv.1, ab_zI]
        have en2 : ehn hh nh = sg x.hi := by rw [← hiv.2, sg_zI hm.2]
        have ev2 : elv hh vh = ab x.hi := by rw [← hiv.2, ab_zI]
        have CE := Lib.hid fun wx => REnds_any hl hh nl nh vl vh wx
        rw [en1, ev1, en2, ev2] at CE
        obtain ⟨z1, hz1⟩ : ∃ z, cmpI (sg x.lo) (ab x.lo) (sg x.hi) (ab x.hi) = z := ⟨_, rfl⟩
        have C1 := Lib.hid fun wx => RCmp_any (sg x.lo) (ab x.lo) x.hl (sg x.hi) (ab x.hi) x.hh (mayI_sg _) (mayI_sg _) wx
        rw [hz1] at C1
        have J1 := Lib.hid (cmz_gt hz1)
        have HX := Lib.hid (And.intro hx1 hx2)
        obtain ⟨ln, hln⟩ : ∃ n, n = sg x.lo := ⟨_, rfl⟩
        obtain ⟨lv, hlv⟩ : ∃ n, n = ab x.lo := ⟨_, rfl⟩
        obtain ⟨un, hun⟩ : ∃ n, n = sg x.hi := ⟨_, rfl⟩
        obtain ⟨uv, huv⟩ : ∃ n, n = ab x.hi := ⟨_, rfl⟩
        rw [← hln, ← hlv, ← hun, ← huv] at CE C1
        have HN := Lib.hid (And.intro hln (And.intro hlv (And.intro hun huv)))
        obtain ⟨_, _, _, _, _, _, _, _, _, _, _, _⟩ := hc.all
        have i1 : (k : Int) < (n : Int) := by omega
        have i2 : (0 : Int) ≤ (k : Int) := by omega
        have i5 : (k : Int).toNat = k := rfl
        have HS := Lib.hid hs
        clear hc hs hm hiv hz1 hx1 hx2 en1 ev1 en2 ev2 hln hlv hun huv
        by_cases c1 : 0 < z1
        · repeat any_goals (first | (go_at_call 19; with_reducible refine (CE.out _).mono ?_; rintro e w4 ⟨rfl, hb4⟩) | (go_at_call 20; with_reducible refine (C1.out _).mono ?_; rintro e w5 ⟨rfl, hb5⟩) | go_skip | go_guarded | go_step | go_upon | (dsimp only []))
          go_roundw
          case rel => exact ⟨k + 1, ks, by omega, rfl, PH.out.skip (by rw [← HX.out.1, ← HX.out.2]; exact J1.out.1 c1), IH.out.drop (by (repeat first | with_reducible exact Below.refl _ _ | with_reducible assumption | with_reducible refine Below.drew ?_ | with_reducible refine below_alloc ?_ _ | ((with_reducible refine Below.setCell ?_ ?_ _); rotate_left; (focus (first | with_reducible exact Nat.le_refl _ | (simp; done) | (simp; omega) | omega))) | (with_reducible refine below_trans ?_ (by assumption)))), NIL.out⟩
          case measure => simp [intOf]; omega
        · obtain ⟨N, hN⟩ : ∃ N, N = ks.length := ⟨_, rfl⟩
          obtain ⟨aK, cK, e3, hRow⟩ := IH.out.row
          subst e3
          rw [← hN] at hRow NIL ⊢
          have HNN := Lib.hid hN
          have hN6 : N ≤ 1000000 := by have := PH.out.le; omega
          clear hN
          repeat any_goals (first | (go_at_call 19; with_reducible refine (CE.out _).mono ?_; rintro e w4 ⟨rfl, hb4⟩) | (go_at_call 20; with_reducible refine (C1.out _).mono ?_; rintro e w5 ⟨rfl, hb5⟩; have L5 := Lib.hid (((@ibox_new w4 ln lv 29).alloc (.cells #[.bool un, .int .u64 (lm uv 0 : Nat), .int .u64 (lm uv 1 : Nat), .int .u64 (lm uv 2 : Nat), .int .u64 (lm uv 3 : Nat)] 29)).below hb5); have U5 := Lib.hid ((@ibox_new1 w4 un uv 29 (.cells #[.bool ln, .int .u64 (lm lv 0 : Nat), .int .u64 (lm lv 1 : Nat), .int .u64 (lm lv 2 : Nat), .int .u64 (lm lv 3 : Nat)] 29)).below hb5); have hw5 : Below wr.heap.size wr w5 := below_trans (by (repeat first | with_reducible exact Below.refl _ _ | with_reducible assumption | with_reducible refine Below.drew ?_ | with_reducible refine below_alloc ?_ _ | ((with_reducible refine Below.setCell ?_ ?_ _); rotate_left; (focus (first | with_reducible exact Nat.le_refl _ | (simp; done) | (simp; omega) | omega))) | (with_reducible refine below_trans ?_ (by assumption)))) hb5) | go_skip | go_guarded | go_step | go_upon | (dsimp only []))
          have KR := Lib.hid fun (wx : World) (hb : Below w5.heap.size w5 wx) => hRow.below (hw5.trans (below_weak hb hw5.size))
          have L5 := Lib.hid fun (wx : World) (hb : Below w5.heap.size w5 wx) => L5.out.below hb
          have U5 := Lib.hid fun (wx : World) (hb : Below w5.heap.size w5 wx) => U5.out.below hb
          have IO := Lib.hid fun (wx : World) (hb : Below w5.heap.size w5 wx) => IH.out.drop (hw5.trans (below_weak hb hw5.size))
          clear hRow
          go_loopw [7] (fun kv wq => ∃ j : Nat, j ≤ N ∧ kv = .int .i64 j ∧ (∀ t y, j ≤ t → ks[t]? = some y → x.lo < y.lo) ∧ Below w5.heap.size w5 wq) (fun kv _ => (intOf kv).toNat)
          case atStart => exact ⟨N, Nat.le_refl _, rfl, fun t y ht hy => (by rw [List.getElem?_eq_none (by rw [← HNN.out]; exact ht)] at hy; cases hy), Below.refl _ _⟩
          case round =>
            obtain ⟨j, hj, rfl, hAll, hW5⟩ := hrel
            have HA := Lib.hid hAll
            clear hAll
            by_cases hj0 : 0 < j
            · obtain ⟨p, hjp⟩ : ∃ p, j = p + 1 := ⟨j - 1, by omega⟩
              have hpN : p < ks.length := by rw [← HNN.out]; omega
              obtain ⟨y, hy⟩ : ∃ y, ks[p]? = some y := ⟨_, List.getElem?_eq_getElem hpN⟩
              obtain ⟨g, go, rfl, hg, hr⟩ := raw_lit (KR.out _ hW5) (by omega) hy
              have LB := Lib.hid (L5.out _ hW5)
              obtain ⟨z2, hz2⟩ : ∃ z, cmpI (sg y.lo) (ab y.lo) (sg x.lo) (ab x.lo) = z := ⟨_, rfl⟩
              have C2 := Lib.hid fun wx => RCmp_any (sg y.lo) (ab y.lo) y.hl (sg x.lo) (ab x.lo) x.hl (mayI_sg _) (mayI_sg _) wx
              rw [hz2, ← HN.out.1, ← HN.out.2.1] at C2
              have J2 := Lib.hid (cmz_gt hz2)
              have HY := Lib.hid hy
              generalize sg y.lo = yn at hr C2
              generalize ab y.lo = yv at hr C2
              have RB := Lib.hid hr
              obtain ⟨_, _, _, _, _, _, _, _, _, _, _, _⟩ := hr.all
              obtain ⟨_, _, _, _, _⟩ := LB.out.all
              have j1 : (0 : Int) < (j : Int) := by omega
              have j2 : wrap64 ((j : Int) - 1) = (p : Int) := by unfold wrap64; omega
              have j3 : (0 : Int) ≤ (p : Int) := by omega
              have j4 : (p : Int) < (N : Int) := by omega
              have j5 : (p : Int).toNat = p := rfl
              have j6 : IntKind.i64.wrap ((j : Int) - 1) = (p : Int) := by rw [IntKind.wrap_i64]; omega
              have HJP := Lib.hid hjp
              clear hr hz2 hy hjp
              go_upto_region 10 with fail
              (obtain ⟨C_, hC⟩ : ∃ C : World → Prop, C = fun w' => Below (wr).heap.size (wr) w' := ⟨_, rfl⟩; have HC := Lib.hid hC; have hne : ∀ p : Prop, (∀ w1 : World, C_ w1 → p) = p := fun p => propext ⟨fun h => h (wr) (by rw [hC]; exact Below.refl _ _), fun h _ _ => h⟩; clear hC; refine wp_region_quiet_cls (C := C_) (by kernel_rfl) (by kernel_rfl) (by rw [HC.out]; exact (Below.refl _ _).drew) ?_)
              (go_big_quiet_want; go_big_quiet_op; go_big_quiet_on)
              (go_big_quiet_want; refine ⟨.bool true, fun w1 hw1 => ?_, ?_⟩; (rw [HC.out] at hw1; obtain ⟨_, _, _, _, _⟩ := (LB.out.below hw1).all; simp [Oper.quietAt, go_sem, *]); (try simp only [Act.put, List.setIfInBounds_toArray, List.set_cons_zero, List.set_cons_succ]); go_big_quiet_on)
              (go_big_quiet_want; go_big_quiet_op; go_big_quiet_on)
              (go_big_quiet_want; go_big_quiet_op; go_big_quiet_on)
              (go_big_quiet_want; go_big_quiet_op; go_big_quiet_on)
              (go_big_quiet_want; refine ⟨.int .i64 (p : Int), fun w1 hw1 => ?_, ?_⟩; (rw [HC.out] at hw1; obtain ⟨_, _, _, _, _⟩ := (LB.out.below hw1).all; simp [Oper.quietAt, go_sem, *]); (try simp only [Act.put, List.setIfInBounds_toArray, List.set_cons_zero, List.set_cons_succ]); go_big_quiet_on)
              (go_big_quiet_want; refine ⟨.pointer (some ⟨g, go + p * 12, none⟩), fun w1 hw1 => ?_, ?_⟩; (rw [HC.out] at hw1; obtain ⟨_, _, _, _, _⟩ := (LB.out.below hw1).all; simp [Oper.quietAt, go_sem, *]); (try simp only [Act.put, List.setIfInBounds_toArray, List.set_cons_zero, List.set_cons_succ]); go_big_quiet_on)
              (go_big_quiet_want; go_big_quiet_op; go_big_quiet_on)
              (go_big_quiet_want; refine ⟨.agg #[.bool yn, .int .u64 (lm yv 0 : Nat), .int .u64 (lm yv 1 : Nat), .int .u64 (lm yv 2 : Nat), .int .u64 (lm yv 3 : Nat)], fun w1 hw1 => ?_, ?_⟩; (rw [HC.out] at hw1; obtain ⟨_, _, _, _, _⟩ := (RB.out.below hw1).all; simp [Oper.quietAt, go_sem, *]); (try simp only [Act.put, List.setIfInBounds_toArray, List.set_cons_zero, List.set_cons_succ]); go_big_quiet_on)
              (go_big_quiet_want; refine ⟨.agg #[.bool ln, .int .u64 (lm lv 0 : Nat), .int .u64 (lm lv 1 : Nat), .int .u64 (lm lv 2 : Nat), .int .u64 (lm lv 3 : Nat)], fun w1 hw1 => ?_, ?_⟩; (rw [HC.out] at hw1; obtain ⟨_, _, _, _, _⟩ := (LB.out.below hw1).all; simp [Oper.quietAt, go_sem, *]); (try simp only [Act.put, List.setIfInBounds_toArray, List.set_cons_zero, List.set_cons_succ]); go_big_quiet_on)
              (go_big_quiet_want; go_big_quiet_op; refine ⟨.int .i64 z2, fun w1 hw1 => ?_, ?_⟩; (rw [HC.out] at hw1 ⊢; with_reducible refine (C2.out _).mono ?_; rintro e w4 ⟨rfl, hb4⟩; exact ⟨rfl, below_trans hw1 hb4⟩); go_big_quiet_on)
              (go_big_quiet_want; refine ⟨.bool (decide (0 < z2)), fun w1 hw1 => ?_, ?_⟩; (rw [HC.out] at hw1; obtain ⟨_, _, _, _, _⟩ := (LB.out.below hw1).all; simp [Oper.quietAt, go_sem, *]); (try simp only [Act.put, List.setIfInBounds_toArray, List.set_cons_zero, List.set_cons_succ]); go_big_quiet_on)
              (go_big_quiet_want; go_big_quiet_op; go_big_quiet_on)
              (refine wpQuiet_nil ?_; intro w2 hw2; rw [HC.out] at hw2)
              by_cases c2 : 0 < z2
              · repeat any_goals (first | go_skip | go_guarded | go_step | go_upon | (simp only []; done))
                go_roundw
                case rel => exact ⟨p, by omega, rfl, fun t y' ht hy' => by
                  have hjp := HJP.out
                  by_cases e : t = p
                  · subst e
                    rw [HY.out] at hy'
                    obtain rfl := Option.some.inj hy'
                    exact J2.out.1 c2
                  · exact HA.out t y' (by omega) hy', hW5.trans (below_weak hw2 hW5.size)⟩
                case measure => have hjp := HJP.out; simp [intOf]; omega
              · have hW6 := hW5.trans (below_weak hw2 hW5.size)
                repeat any_goals (first | go_skip | go_guarded | go_step | go_upon | (simp only []; done))
                by_cases hcr : cK = j
                · have hNj : N = j := by have := (KR.out _ (Below.refl _ _)).l; omega
                  subst hcr hNj
                  have KP := Lib.hid fun (w' : World) (hk : Below w5.heap.size w5 w') => twoc_cells (L5.out _ (Below.refl _ _)) (U5.out _ (Below.refl _ _)) hk
                  have hs6 : w5.heap.size ≤ w2.heap.size := hW6.size
                  have hq : Below w5.heap.size w5 w2.drew := Below.drew hW6
                  have k1 : (0 : Int) ≤ (N : Int) := by omega
                  go_region_held3 (fun w' => TwoC w' w4.heap.size ln lv (w4.heap.size + 1) un uv) (first | with_reducible assumption | exact KP.out _ (by (repeat first | with_reducible exact Below.refl _ _ | with_reducible assumption | with_reducible refine Below.drew ?_ | with_reducible refine below_alloc ?_ _ | ((with_reducible refine Below.setCell ?_ ?_ _); rotate_left; (focus (first | with_reducible exact Nat.le_refl _ | (simp; done) | (simp; omega) | omega))) | (with_reducible refine below_trans ?_ (by assumption))))) (first | (have ow := row_e (base := w5.heap.size) (W := w2) hs6; refine step_append_any rfl (.tmp 52) (.tmp 55) 22 rfl w5.heap.size 37 i0 (.agg #[.bool false, .bool false, .bool false, .int .u64 0, .int .u64 0, .int .u64 0, .int .u64 0, .bool false, .int .u64 0, .int .u64 0, .int .u64 0, .int .u64 0]) 12 88 Tryz.underlying22 hi hz0 hz1 hz2 rfl (by decide) _ (0) ([]) (by first | rfl | simp [Act.eval]) (ow) _ (N) (encS (rowL (nthS (ks.map rawS)) 0 (N))) (by first | rfl | simp [Act.eval]) (row_src (KR.out _ (Below.refl _ _)) (by (repeat first | with_reducible exact Below.refl _ _ | with_reducible assumption | with_reducible refine Below.drew ?_ | with_reducible refine below_alloc ?_ _ | ((with_reducible refine Below.setCell ?_ ?_ _); rotate_left; (focus (first | with_reducible exact Nat.le_refl _ | (simp; done) | (simp; omega) | omega))) | (with_reducible refine below_trans ?_ (by assumption)))) 0 N N go (by omega) (by omega)) (by unfold maxLen; omega) (by omega) (by first | omega | (simp; omega)) ?_; intro v1 wa hown1 hg1; have hbA : Below w5.heap.size w5 wa := form_grown (Below.refl _ _) (by (repeat first | with_reducible exact Below.refl _ _ | with_reducible assumption | with_reducible refine Below.drew ?_ | with_reducible refine below_alloc ?_ _ | ((with_reducible refine Below.setCell ?_ ?_ _); rotate_left; (focus (first | with_reducible exact Nat.le_refl _ | (simp; done) | (simp; omega) | omega))) | (with_reducible refine below_trans ?_ (by assumption)))) hg1 ow; have hsA := hbA.size; skip) | (have ow := (row_e (base := w5.heap.size) (W := w2) hs6).alloc (.cells #[.bool false, .bool false, .bool ln, .int .u64 (lm lv 0 : Nat), .int .u64 (lm lv 1 : Nat), .int .u64 (lm lv 2 : Nat), .int .u64 (lm lv 3 : Nat), .bool un, .int .u64 (lm uv 0 : Nat), .int .u64 (lm uv 1 : Nat), .int .u64 (lm uv 2 : Nat), .int .u64 (lm uv 3 : Nat)] 37); refine step_append_any rfl (.tmp 52) (.tmp 55) 22 rfl w5.heap.size 37 i0 (.agg #[.bool false, .bool false, .bool false, .int .u64 0, .int .u64 0, .int .u64 0, .int .u64 0, .bool false, .int .u64 0, .int .u64 0, .int .u64 0, .int .u64 0]) 12 88 Tryz.underlying22 hi hz0 hz1 hz2 rfl (by decide) _ (0) ([]) (by first | rfl | simp [Act.eval]) (ow) _ (N) (encS (rowL (nthS (ks.map rawS)) 0 (N))) (by first | rfl | simp [Act.eval]) (row_src (KR.out _ (Below.refl _ _)) (by (repeat first | with_reducible exact Below.refl _ _ | with_reducible assumption | with_reducible refine Below.drew ?_ | with_reducible refine below_alloc ?_ _ | ((with_reducible refine Below.setCell ?_ ?_ _); rotate_left; (focus (first | with_reducible exact Nat.le_refl _ | (simp; done) | (simp; omega) | omega))) | (with_reducible refine below_trans ?_ (by assumption)))) 0 N N go (by omega) (by omega)) (by unfold maxLen; omega) (by omega) (by first | omega | (simp; omega)) ?_; intro v1 wa hown1 hg1; have hbA : Below w5.heap.size w5 wa := form_grown (Below.refl _ _) (by (repeat first | with_reducible exact Below.refl _ _ | with_reducible assumption | with_reducible refine Below.drew ?_ | with_reducible refine below_alloc ?_ _ | ((with_reducible refine Below.setCell ?_ ?_ _); rotate_left; (focus (first | with_reducible exact Nat.le_refl _ | (simp; done) | (simp; omega) | omega))) | (with_reducible refine below_trans ?_ (by assumption)))) hg1 ow; have hsA := hbA.size; have rx := (row_drew (row_x (base := w5.heap.size) (W := w2.alloc (.cells #[] 37)) _ _ _ _ _ _ _ _ _ _ _ _  (by simp; omega))).kept hg1 (row_ne (by simp))) | (have ow := row_e (base := w5.heap.size) (W := w2.alloc (.cells #[.bool false, .bool false, .bool ln, .int .u64 (lm lv 0 : Nat), .int .u64 (lm lv 1 : Nat), .int .u64 (lm lv 2 : Nat), .int .u64 (lm lv 3 : Nat), .bool un, .int .u64 (lm uv 0 : Nat), .int .u64 (lm uv 1 : Nat), .int .u64 (lm uv 2 : Nat), .int .u64 (lm uv 3 : Nat)] 37)) (by simp; omega); refine step_append_any rfl (.tmp 52) (.tmp 55) 22 rfl w5.heap.size 37 i0 (.agg #[.bool false, .bool false, .bool false, .int .u64 0, .int .u64 0, .int .u64 0, .int .u64 0, .bool false, .int .u64 0, .int .u64 0, .int .u64 0, .int .u64 0]) 12 88 Tryz.underlying22 hi hz0 hz1 hz2 rfl (by decide) _ (0) ([]) (by first | rfl | simp [Act.eval]) (ow) _ (N) (encS (rowL (nthS (ks.map rawS)) 0 (N))) (by first | rfl | simp [Act.eval]) (row_src (KR.out _ (Below.refl _ _)) (by (repeat first | with_reducible exact Below.refl _ _ | with_reducible assumption | with_reducible refine Below.drew ?_ | with_reducible refine below_alloc ?_ _ | ((with_reducible refine Below.setCell ?_ ?_ _); rotate_left; (focus (first | with_reducible exact Nat.le_refl _ | (simp; done) | (simp; omega) | omega))) | (with_reducible refine below_trans ?_ (by assumption)))) 0 N N go (by omega) (by omega)) (by unfold maxLen; omega) (by omega) (by first | omega | (simp; omega)) ?_; intro v1 wa hown1 hg1; have hbA : Below w5.heap.size w5 wa := form_grown (Below.refl _ _) (by (repeat first | with_reducible exact Below.refl _ _ | with_reducible assumption | with_reducible refine Below.drew ?_ | with_reducible refine below_alloc ?_ _ | ((with_reducible refine Below.setCell ?_ ?_ _); rotate_left; (focus (first | with_reducible exact Nat.le_refl _ | (simp; done) | (simp; omega) | omega))) | (with_reducible refine below_trans ?_ (by assumption)))) hg1 ow; have hsA := hbA.size; have rx := (row_drew ((row_x (base := w5.heap.size) (W := w2) _ _ _ _ _ _ _ _ _ _ _ _  hs6).alloc _)).kept hg1 (row_ne (by simp))) | (refine step_append_any rfl (.tmp 56) (.tmp 60) 22 rfl w5.heap.size 37 i0 (.agg #[.bool false, .bool false, .bool false, .int .u64 0, .int .u64 0, .int .u64 0, .int .u64 0, .bool false, .int .u64 0, .int .u64 0, .int .u64 0, .int .u64 0]) 12 88 Tryz.underlying22 hi hz0 hz1 hz2 rfl (by decide) _ (0 + (N)) ([] ++ encS (rowL (nthS (ks.map rawS)) 0 (N))) (by first | rfl | simp [Act.eval]) (hown1.alloc _) _ (1) ([.bool false, .bool false, .bool ln, .int .u64 (lm lv 0 : Nat), .int .u64 (lm lv 1 : Nat), .int .u64 (lm lv 2 : Nat), .int .u64 (lm lv 3 : Nat), .bool un, .int .u64 (lm uv 0 : Nat), .int .u64 (lm uv 1 : Nat), .int .u64 (lm uv 2 : Nat), .int .u64 (lm uv 3 : Nat)]) (by first | rfl | simp [Act.eval]) (src_row (row_x (base := w5.heap.size) (W := wa) _ _ _ _ _ _ _ _ _ _ _ _  hsA) twelve_one (by decide)) (by unfold maxLen; omega) (by omega) (by first | omega | (simp; omega)) ?_; intro v2 wb hown2 hg2; have hbB : Below w5.heap.size w5 wb := form_grown (Below.refl _ _) (by (repeat first | with_reducible exact Below.refl _ _ | with_reducible assumption | with_reducible refine Below.drew ?_ | with_reducible refine below_alloc ?_ _ | ((with_reducible refine Below.setCell ?_ ?_ _); rotate_left; (focus (first | with_reducible exact Nat.le_refl _ | (simp; done) | (simp; omega) | omega))) | (with_reducible refine below_trans ?_ (by assumption)))) hg2 hown1; have hsB := hbB.size) | (refine step_append_any rfl (.tmp 56) (.tmp 60) 22 rfl w5.heap.size 37 i0 (.agg #[.bool false, .bool false, .bool false, .int .u64 0, .int .u64 0, .int .u64 0, .int .u64 0, .bool false, .int .u64 0, .int .u64 0, .int .u64 0, .int .u64 0]) 12 88 Tryz.underlying22 hi hz0 hz1 hz2 rfl (by decide) _ (0 + (N)) ([] ++ encS (rowL (nthS (ks.map rawS)) 0 (N))) (by first | rfl | simp [Act.eval]) (hown1) _ (1) ([.bool false, .bool false, .bool ln, .int .u64 (lm lv 0 : Nat), .int .u64 (lm lv 1 : Nat), .int .u64 (lm lv 2 : Nat), .int .u64 (lm lv 3 : Nat), .bool un, .int .u64 (lm uv 0 : Nat), .int .u64 (lm uv 1 : Nat), .int .u64 (lm uv 2 : Nat), .int .u64 (lm uv 3 : Nat)]) (by first | rfl | simp [Act.eval]) (src_row rx twelve_one (by decide)) (by unfold maxLen; omega) (by omega) (by first | omega | (simp; omega)) ?_; intro v2 wb hown2 hg2; have hbB : Below w5.heap.size w5 wb := form_grown (Below.refl _ _) (by (repeat first | with_reducible exact Below.refl _ _ | with_reducible assumption | with_reducible refine Below.drew ?_ | with_reducible refine below_alloc ?_ _ | ((with_reducible refine Below.setCell ?_ ?_ _); rotate_left; (focus (first | with_reducible exact Nat.le_refl _ | (simp; done) | (simp; omega) | omega))) | (with_reducible refine below_trans ?_ (by assumption)))) hg2 hown1; have hsB := hbB.size) | (refine step_append_any rfl (.tmp 61) (.tmp 64) 22 rfl w5.heap.size 37 i0 (.agg #[.bool false, .bool false, .bool false, .int .u64 0, .int .u64 0, .int .u64 0, .int .u64 0, .bool false, .int .u64 0, .int .u64 0, .int .u64 0, .int .u64 0]) 12 88 Tryz.underlying22 hi hz0 hz1 hz2 rfl (by decide) _ (0 + (N) + 1) ([] ++ encS (rowL (nthS (ks.map rawS)) 0 (N)) ++ [.bool false, .bool false, .bool ln, .int .u64 (lm lv 0 : Nat), .int .u64 (lm lv 1 : Nat), .int .u64 (lm lv 2 : Nat), .int .u64 (lm lv 3 : Nat), .bool un, .int .u64 (lm uv 0 : Nat), .int .u64 (lm uv 1 : Nat), .int .u64 (lm uv 2 : Nat), .int .u64 (lm uv 3 : Nat)]) (by first | rfl | simp [Act.eval]) (hown2) _ (0) ([]) (by first | rfl | simp [Act.eval]) (src_zero _ _) (by unfold maxLen; omega) (by omega) (by first | omega | (simp; omega)) ?_; intro v3 wc hown3 hg3; have hbC : Below w5.heap.size w5 wc := form_grown (Below.refl _ _) hbB hg3 hown2))
                  all_goals (repeat any_goals (first | go_skip | go_guarded | go_step | go_upon | (simp only []; done)))
                  all_goals (go_roundw)
                  all_goals (first | exact ⟨k + 1, insK ks (N) x, by omega, rfl, PH.out.ins (Prod.ext HX.out.1 HX.out.2) (by have := J1.out; omega) (by rw [← HNN.out]; omega) (.inr ⟨y, by rw [show N - 1 = p from by have := HJP.out; omega]; exact HY.out, by have := J2.out; omega⟩) HA.out, ins_done (by rw [Nat.sub_self]; exact hown3) HNN.out (by omega) (ins_cells HN.out) (Nat.le_trans IH.out.b.size hw5.size) (IH.out.b.trans (below_weak (hw5.trans (below_weak hbC hw5.size)) IH.out.b.size)), fun h => by have := congrArg List.length h; rw [insK_len] at this; cases this⟩ | (simp [intOf]; omega))
                · have KP := Lib.hid fun (w' : World) (hk : Below w5.heap.size w5 w') => twoc_cells (L5.out _ (Below.refl _ _)) (U5.out _ (Below.refl _ _)) hk
                  have hs6 : w5.heap.size ≤ w2.heap.size := hW6.size
                  have hq : Below w5.heap.size w5 w2.drew := Below.drew hW6
                  have k1 : (0 : Int) ≤ (j : Int) := by omega
                  have k2 : (j : Int) ≤ (N : Int) := by omega
                  have k4 : (N : Int) ≤ (cK : Int) := by have := (KR.out _ (Below.refl _ _)).l; omega
                  have k3 : (j : Int) ≤ (cK : Int) := by omega
                  go_region_held3 (fun w' => TwoC w' w4.heap.size ln lv (w4.heap.size + 1) un uv) (first | with_reducible assumption | exact KP.out _ (by (repeat first | with_reducible exact Below.refl _ _ | with_reducible assumption | with_reducible refine Below.drew ?_ | with_reducible refine below_alloc ?_ _ | ((with_reducible refine Below.setCell ?_ ?_ _); rotate_left; (focus (first | with_reducible exact Nat.le_refl _ | (simp; done) | (simp; omega) | omega))) | (with_reducible refine below_trans ?_ (by assumption))))) (first | (have ow := row_e (base := w5.heap.size) (W := w2) hs6; refine step_append_any rfl (.tmp 52) (.tmp 55) 22 rfl w5.heap.size 37 i0 (.agg #[.bool false, .bool false, .bool false, .int .u64 0, .int .u64 0, .int .u64 0, .int .u64 0, .bool false, .int .u64 0, .int .u64 0, .int .u64 0, .int .u64 0]) 12 88 Tryz.underlying22 hi hz0 hz1 hz2 rfl (by decide) _ (0) ([]) (by first | rfl | simp [Act.eval]) (ow) _ (j) (encS (rowL (nthS (ks.map rawS)) 0 (j))) (by first | rfl | simp [Act.eval]) (row_src (KR.out _ (Below.refl _ _)) (by (repeat first | with_reducible exact Below.refl _ _ | with_reducible assumption | with_reducible refine Below.drew ?_ | with_reducible refine below_alloc ?_ _ | ((with_reducible refine Below.setCell ?_ ?_ _); rotate_left; (focus (first | with_reducible exact Nat.le_refl _ | (simp; done) | (simp; omega) | omega))) | (with_reducible refine below_trans ?_ (by assumption)))) 0 j cK go (by omega) (by omega)) (by unfold maxLen; omega) (by omega) (by first | omega | (simp; omega)) ?_; intro v1 wa hown1 hg1; have hbA : Below w5.heap.size w5 wa := form_grown (Below.refl _ _) (by (repeat first | with_reducible exact Below.refl _ _ | with_reducible assumption | with_reducible refine Below.drew ?_ | with_reducible refine below_alloc ?_ _ | ((with_reducible refine Below.setCell ?_ ?_ _); rotate_left; (focus (first | with_reducible exact Nat.le_refl _ | (simp; done) | (simp; omega) | omega))) | (with_reducible refine below_trans ?_ (by assumption)))) hg1 ow; have hsA := hbA.size; skip) | (have ow := (row_e (base := w5.heap.size) (W := w2) hs6).alloc (.cells #[.bool false, .bool false, .bool ln, .int .u64 (lm lv 0 : Nat), .int .u64 (lm lv 1 : Nat), .int .u64 (lm lv 2 : Nat), .int .u64 (lm lv 3 : Nat), .bool un, .int .u64 (lm uv 0 : Nat), .int .u64 (lm uv 1 : Nat), .int .u64 (lm uv 2 : Nat), .int .u64 (lm uv 3 : Nat)] 37); refine step_append_any rfl (.tmp 52) (.tmp 55) 22 rfl w5.heap.size 37 i0 (.agg #[.bool false, .bool false, .bool false, .int .u64 0, .int .u64 0, .int .u64 0, .int .u64 0, .bool false, .int .u64 0, .int .u64 0, .int .u64 0, .int .u64 0]) 12 88 Tryz.underlying22 hi hz0 hz1 hz2 rfl (by decide) _ (0) ([]) (by first | rfl | simp [Act.eval]) (ow) _ (j) (encS (rowL (nthS (ks.map rawS)) 0 (j))) (by first | rfl | simp [Act.eval]) (row_src (KR.out _ (Below.refl _ _)) (by (repeat first | with_reducible exact Below.refl _ _ | with_reducible assumption | with_reducible refine Below.drew ?_ | with_reducible refine below_alloc ?_ _ | ((with_reducible refine Below.setCell ?_ ?_ _); rotate_left; (focus (first | with_reducible exact Nat.le_refl _ | (simp; done) | (simp; omega) | omega))) | (with_reducible refine below_trans ?_ (by assumption)))) 0 j cK go (by omega) (by omega)) (by unfold maxLen; omega) (by omega) (by first | omega | (simp; omega)) ?_; intro v1 wa hown1 hg1; have hbA : Below w5.heap.size w5 wa := form_grown (Below.refl _ _) (by (repeat first | with_reducible exact Below.refl _ _ | with_reducible assumption | with_reducible refine Below.drew ?_ | with_reducible refine below_alloc ?_ _ | ((with_reducible refine Below.setCell ?_ ?_ _); rotate_left; (focus (first | with_reducible exact Nat.le_refl _ | (simp; done) | (simp; omega) | omega))) | (with_reducible refine below_trans ?_ (by assumption)))) hg1 ow; have hsA := hbA.size; have rx := (row_drew (row_x (base := w5.heap.size) (W := w2.alloc (.cells #[] 37)) _ _ _ _ _ _ _ _ _ _ _ _  (by simp; omega))).kept hg1 (row_ne (by simp))) | (have ow := row_e (base := w5.heap.size) (W := w2.alloc (.cells #[.bool false, .bool false, .bool ln, .int .u64 (lm lv 0 : Nat), .int .u64 (lm lv 1 : Nat), .int .u64 (lm lv 2 : Nat), .int .u64 (lm lv 3 : Nat), .bool un, .int .u64 (lm uv 0 : Nat), .int .u64 (lm uv 1 : Nat), .int .u64 (lm uv 2 : Nat), .int .u64 (lm uv 3 : Nat)] 37)) (by simp; omega); refine step_append_any rfl (.tmp 52) (.tmp 55) 22 rfl w5.heap.size 37 i0 (.agg #[.bool false, .bool false, .bool false, .int .u64 0, .int .u64 0, .int .u64 0, .int .u64 0, .bool false, .int .u64 0, .int .u64 0, .int .u64 0, .int .u64 0]) 12 88 Tryz.underlying22 hi hz0 hz1 hz2 rfl (by decide) _ (0) ([]) (by first | rfl | simp [Act.eval]) (ow) _ (j) (encS (rowL (nthS (ks.map rawS)) 0 (j))) (by first | rfl | simp [Act.eval]) (row_src (KR.out _ (Below.refl _ _)) (by (repeat first | with_reducible exact Below.refl _ _ | with_reducible assumption | with_reducible refine Below.drew ?_ | with_reducible refine below_alloc ?_ _ | ((with_reducible refine Below.setCell ?_ ?_ _); rotate_left; (focus (first | with_reducible exact Nat.le_refl _ | (simp; done) | (simp; omega) | omega))) | (with_reducible refine below_trans ?_ (by assumption)))) 0 j cK go (by omega) (by omega)) (by unfold maxLen; omega) (by omega) (by first | omega | (simp; omega)) ?_; intro v1 wa hown1 hg1; have hbA : Below w5.heap.size w5 wa := form_grown (Below.refl _ _) (by (repeat first | with_reducible exact Below.refl _ _ | with_reducible assumption | with_reducible refine Below.drew ?_ | with_reducible refine below_alloc ?_ _ | ((with_reducible refine Below.setCell ?_ ?_ _); rotate_left; (focus (first | with_reducible exact Nat.le_refl _ | (simp; done) | (simp; omega) | omega))) | (with_reducible refine below_trans ?_ (by assumption)))) hg1 ow; have hsA := hbA.size; have rx := (row_drew ((row_x (base := w5.heap.size) (W := w2) _ _ _ _ _ _ _ _ _ _ _ _  hs6).alloc _)).kept hg1 (row_ne (by simp))) | (refine step_append_any rfl (.tmp 56) (.tmp 60) 22 rfl w5.heap.size 37 i0 (.agg #[.bool false, .bool false, .bool false, .int .u64 0, .int .u64 0, .int .u64 0, .int .u64 0, .bool false, .int .u64 0, .int .u64 0, .int .u64 0, .int .u64 0]) 12 88 Tryz.underlying22 hi hz0 hz1 hz2 rfl (by decide) _ (0 + (j)) ([] ++ encS (rowL (nthS (ks.map rawS)) 0 (j))) (by first | rfl | simp [Act.eval]) (hown1.alloc _) _ (1) ([.bool false, .bool false, .bool ln, .int .u64 (lm lv 0 : Nat), .int .u64 (lm lv 1 : Nat), .int .u64 (lm lv 2 : Nat), .int .u64 (lm lv 3 : Nat), .bool un, .int .u64 (lm uv 0 : Nat), .int .u64 (lm uv 1 : Nat), .int .u64 (lm uv 2 : Nat), .int .u64 (lm uv 3 : Nat)]) (by first | rfl | simp [Act.eval]) (src_row (row_x (base := w5.heap.size) (W := wa) _ _ _ _ _ _ _ _ _ _ _ _  hsA) twelve_one (by decide)) (by unfold maxLen; omega) (by omega) (by first | omega | (simp; omega)) ?_; intro v2 wb hown2 hg2; have hbB : Below w5.heap.size w5 wb := form_grown (Below.refl _ _) (by (repeat first | with_reducible exact Below.refl _ _ | with_reducible assumption | with_reducible refine Below.drew ?_ | with_reducible refine below_alloc ?_ _ | ((with_reducible refine Below.setCell ?_ ?_ _); rotate_left; (focus (first | with_reducible exact Nat.le_refl _ | (simp; done) | (simp; omega) | omega))) | (with_reducible refine below_trans ?_ (by assumption)))) hg2 hown1; have hsB := hbB.size) | (refine step_append_any rfl (.tmp 56) (.tmp 60) 22 rfl w5.heap.size 37 i0 (.agg #[.bool false, .bool false, .bool false, .int .u64 0, .int .u64 0, .int .u64 0, .int .u64 0, .bool false, .int .u64 0, .int .u64 0, .int .u64 0, .int .u64 0]) 12 88 Tryz.underlying22 hi hz0 hz1 hz2 rfl (by decide) _ (0 + (j)) ([] ++ encS (rowL (nthS (ks.map rawS)) 0 (j))) (by first | rfl | simp [Act.eval]) (hown1) _ (1) ([.bool false, .bool false, .bool ln, .int .u64 (lm lv 0 : Nat), .int .u64 (lm lv 1 : Nat), .int .u64 (lm lv 2 : Nat), .int .u64 (lm lv 3 : Nat), .bool un, .int .u64 (lm uv 0 : Nat), .int .u64 (lm uv 1 : Nat), .int .u64 (lm uv 2 : Nat), .int .u64 (lm uv 3 : Nat)]) (by first | rfl | simp [Act.eval]) (src_row rx twelve_one (by decide)) (by unfold maxLen; omega) (by omega) (by first | omega | (simp; omega)) ?_; intro v2 wb hown2 hg2; have hbB : Below w5.heap.size w5 wb := form_grown (Below.refl _ _) (by (repeat first | with_reducible exact Below.refl _ _ | with_reducible assumption | with_reducible refine Below.drew ?_ | with_reducible refine below_alloc ?_ _ | ((with_reducible refine Below.setCell ?_ ?_ _); rotate_left; (focus (first | with_reducible exact Nat.le_refl _ | (simp; done) | (simp; omega) | omega))) | (with_reducible refine below_trans ?_ (by assumption)))) hg2 hown1; have hsB := hbB.size) | (refine step_append_any rfl (.tmp 61) (.tmp 64) 22 rfl w5.heap.size 37 i0 (.agg #[.bool false, .bool false, .bool false, .int .u64 0, .int .u64 0, .int .u64 0, .int .u64 0, .bool false, .int .u64 0, .int .u64 0, .int .u64 0, .int .u64 0]) 12 88 Tryz.underlying22 hi hz0 hz1 hz2 rfl (by decide) _ (0 + (j) + 1) ([] ++ encS (rowL (nthS (ks.map rawS)) 0 (j)) ++ [.bool false, .bool false, .bool ln, .int .u64 (lm lv 0 : Nat), .int .u64 (lm lv 1 : Nat), .int .u64 (lm lv 2 : Nat), .int .u64 (lm lv 3 : Nat), .bool un, .int .u64 (lm uv 0 : Nat), .int .u64 (lm uv 1 : Nat), .int .u64 (lm uv 2 : Nat), .int .u64 (lm uv 3 : Nat)]) (by first | rfl | simp [Act.eval]) (hown2) _ (N - j) (encS (rowL (nthS (ks.map rawS)) (j) (N - (j)))) (by first | rfl | simp [Act.eval]) (row_src (KR.out _ (Below.refl _ _)) hbB j (N - j) (cK - j) (go + j * 12) (by omega) rfl) (by unfold maxLen; omega) (by omega) (by first | omega | (simp; omega)) ?_; intro v3 wc hown3 hg3; have hbC : Below w5.heap.size w5 wc := form_grown (Below.refl _ _) hbB hg3 hown2))
                  all_goals (repeat any_goals (first | go_skip | go_guarded | go_step | go_upon | (simp only []; done)))
                  all_goals (go_roundw)
                  all_goals (first | exact ⟨k + 1, insK ks (j) x, by omega, rfl, PH.out.ins (Prod.ext HX.out.1 HX.out.2) (by have := J1.out; omega) (by rw [← HNN.out]; omega) (.inr ⟨y, by rw [show j - 1 = p from by have := HJP.out; omega]; exact HY.out, by have := J2.out; omega⟩) HA.out, ins_done hown3 HNN.out (by omega) (ins_cells HN.out) (Nat.le_trans IH.out.b.size hw5.size) (IH.out.b.trans (below_weak (hw5.trans (below_weak hbC hw5.size)) IH.out.b.size)), fun h => by have := congrArg List.length h; rw [insK_len] at this; cases this⟩ | (simp [intOf]; omega))
            · by_cases hN0 : N = 0
              · obtain rfl : j = 0 := by omega
                have hks : ks = [] := List.length_eq_zero_iff.1 (by rw [← HNN.out]; exact hN0)
                have hn3 := NIL.out hks
                injection hn3 with q1 q2 q3
                subst q1 q2 q3
                have hW6 : Below w5.heap.size w5 wr.drew := Below.drew hW5
                go_upto_region 10 with fail
                go_region
                repeat any_goals (first | go_skip | go_guarded | go_step | go_upon | (simp only []; done))
                generalize wr.drew = w2 at *
                have KP := Lib.hid fun (w' : World) (hk : Below w5.heap.size w5 w') => twoc_cells (L5.out _ (Below.refl _ _)) (U5.out _ (Below.refl _ _)) hk
                have hs6 : w5.heap.size ≤ w2.heap.size := hW6.size
                have hq : Below w5.heap.size w5 w2.drew := Below.drew hW6
                go_region_held3 (fun w' => TwoC w' w4.heap.size ln lv (w4.heap.size + 1) un uv) (first | with_reducible assumption | exact KP.out _ (by (repeat first | with_reducible exact Below.refl _ _ | with_reducible assumption | with_reducible refine Below.drew ?_ | with_reducible refine below_alloc ?_ _ | ((with_reducible refine Below.setCell ?_ ?_ _); rotate_left; (focus (first | with_reducible exact Nat.le_refl _ | (simp; done) | (simp; omega) | omega))) | (with_reducible refine below_trans ?_ (by assumption))))) (first | (have ow := row_e (base := w5.heap.size) (W := w2) hs6; refine step_append_any rfl (.tmp 52) (.tmp 55) 22 rfl w5.heap.size 37 i0 (.agg #[.bool false, .bool false, .bool false, .int .u64 0, .int .u64 0, .int .u64 0, .int .u64 0, .bool false, .int .u64 0, .int .u64 0, .int .u64 0, .int .u64 0]) 12 88 Tryz.underlying22 hi hz0 hz1 hz2 rfl (by decide) _ (0) ([]) (by first | rfl | simp [Act.eval]) (ow) _ (0) ([]) (by first | rfl | simp [Act.eval]) (src_zero _ _) (by unfold maxLen; omega) (by omega) (by first | omega | (simp; omega)) ?_; intro v1 wa hown1 hg1; have hbA : Below w5.heap.size w5 wa := form_grown (Below.refl _ _) (by (repeat first | with_reducible exact Below.refl _ _ | with_reducible assumption | with_reducible refine Below.drew ?_ | with_reducible refine below_alloc ?_ _ | ((with_reducible refine Below.setCell ?_ ?_ _); rotate_left; (focus (first | with_reducible exact Nat.le_refl _ | (simp; done) | (simp; omega) | omega))) | (with_reducible refine below_trans ?_ (by assumption)))) hg1 ow; have hsA := hbA.size; skip) | (have ow := (row_e (base := w5.heap.size) (W := w2) hs6).alloc (.cells #[.bool false, .bool false, .bool ln, .int .u64 (lm lv 0 : Nat), .int .u64 (lm lv 1 : Nat), .int .u64 (lm lv 2 : Nat), .int .u64 (lm lv 3 : Nat), .bool un, .int .u64 (lm uv 0 : Nat), .int .u64 (lm uv 1 : Nat), .int .u64 (lm uv 2 : Nat), .int .u64 (lm uv 3 : Nat)] 37); refine step_append_any rfl (.tmp 52) (.tmp 55) 22 rfl w5.heap.size 37 i0 (.agg #[.bool false, .bool false, .bool false, .int .u64 0, .int .u64 0, .int .u64 0, .int .u64 0, .bool false, .int .u64 0, .int .u64 0, .int .u64 0, .int .u64 0]) 12 88 Tryz.underlying22 hi hz0 hz1 hz2 rfl (by decide) _ (0) ([]) (by first | rfl | simp [Act.eval]) (ow) _ (0) ([]) (by first | rfl | simp [Act.eval]) (src_zero _ _) (by unfold maxLen; omega) (by omega) (by first | omega | (simp; omega)) ?_; intro v1 wa hown1 hg1; have hbA : Below w5.heap.size w5 wa := form_grown (Below.refl _ _) (by (repeat first | with_reducible exact Below.refl _ _ | with_reducible assumption | with_reducible refine Below.drew ?_ | with_reducible refine below_alloc ?_ _ | ((with_reducible refine Below.setCell ?_ ?_ _); rotate_left; (focus (first | with_reducible exact Nat.le_refl _ | (simp; done) | (simp; omega) | omega))) | (with_reducible refine below_trans ?_ (by assumption)))) hg1 ow; have hsA := hbA.size; have rx := (row_drew (row_x (base := w5.heap.size) (W := w2.alloc (.cells #[] 37)) _ _ _ _ _ _ _ _ _ _ _ _  (by simp; omega))).kept hg1 (row_ne (by simp))) | (have ow := row_e (base := w5.heap.size) (W := w2.alloc (.cells #[.bool false, .bool false, .bool ln, .int .u64 (lm lv 0 : Nat), .int .u64 (lm lv 1 : Nat), .int .u64 (lm lv 2 : Nat), .int .u64 (lm lv 3 : Nat), .bool un, .int .u64 (lm uv 0 : Nat), .int .u64 (lm uv 1 : Nat), .int .u64 (lm uv 2 : Nat), .int .u64 (lm uv 3 : Nat)] 37)) (by simp; omega); refine step_append_any rfl (.tmp 52) (.tmp 55) 22 rfl w5.heap.size 37 i0 (.agg #[.bool false, .bool false, .bool false, .int .u64 0, .int .u64 0, .int .u64 0, .int .u64 0, .bool false, .int .u64 0, .int .u64 0, .int .u64 0, .int .u64 0]) 12 88 Tryz.underlying22 hi hz0 hz1 hz2 rfl (by decide) _ (0) ([]) (by first | rfl | simp [Act.eval]) (ow) _ (0) ([]) (by first | rfl | simp [Act.eval]) (src_zero _ _) (by unfold maxLen; omega) (by omega) (by first | omega | (simp; omega)) ?_; intro v1 wa hown1 hg1; have hbA : Below w5.heap.size w5 wa := form_grown (Below.refl _ _) (by (repeat first | with_reducible exact Below.refl _ _ | with_reducible assumption | with_reducible refine Below.drew ?_ | with_reducible refine below_alloc ?_ _ | ((with_reducible refine Below.setCell ?_ ?_ _); rotate_left; (focus (first | with_reducible exact Nat.le_refl _ | (simp; done) | (simp; omega) | omega))) | (with_reducible refine below_trans ?_ (by assumption)))) hg1 ow; have hsA := hbA.size; have rx := (row_drew ((row_x (base := w5.heap.size) (W := w2) _ _ _ _ _ _ _ _ _ _ _ _  hs6).alloc _)).kept hg1 (row_ne (by simp))) | (refine step_append_any rfl (.tmp 56) (.tmp 60) 22 rfl w5.heap.size 37 i0 (.agg #[.bool false, .bool false, .bool false, .int .u64 0, .int .u64 0, .int .u64 0, .int .u64 0, .bool false, .int .u64 0, .int .u64 0, .int .u64 0, .int .u64 0]) 12 88 Tryz.underlying22 hi hz0 hz1 hz2 rfl (by decide) _ (0 + (0)) ([] ++ []) (by first | rfl | simp [Act.eval]) (hown1.alloc _) _ (1) ([.bool false, .bool false, .bool ln, .int .u64 (lm lv 0 : Nat), .int .u64 (lm lv 1 : Nat), .int .u64 (lm lv 2 : Nat), .int .u64 (lm lv 3 : Nat), .bool un, .int .u64 (lm uv 0 : Nat), .int .u64 (lm uv 1 : Nat), .int .u64 (lm uv 2 : Nat), .int .u64 (lm uv 3 : Nat)]) (by first | rfl | simp [Act.eval]) (src_row (row_x (base := w5.heap.size) (W := wa) _ _ _ _ _ _ _ _ _ _ _ _  hsA) twelve_one (by decide)) (by unfold maxLen; omega) (by omega) (by first | omega | (simp; omega)) ?_; intro v2 wb hown2 hg2; have hbB : Below w5.heap.size w5 wb := form_grown (Below.refl _ _) (by (repeat first | with_reducible exact Below.refl _ _ | with_reducible assumption | with_reducible refine Below.drew ?_ | with_reducible refine below_alloc ?_ _ | ((with_reducible refine Below.setCell ?_ ?_ _); rotate_left; (focus (first | with_reducible exact Nat.le_refl _ | (simp; done) | (simp; omega) | omega))) | (with_reducible refine below_trans ?_ (by assumption)))) hg2 hown1; have hsB := hbB.size) | (refine step_append_any rfl (.tmp 56) (.tmp 60) 22 rfl w5.heap.size 37 i0 (.agg #[.bool false, .bool false, .bool false, .int .u64 0, .int .u64 0, .int .u64 0, .int .u64 0, .bool false, .int .u64 0, .int .u64 0, .int .u64 0, .int .u64 0]) 12 88 Tryz.underlying22 hi hz0 hz1 hz2 rfl (by decide) _ (0 + (0)) ([] ++ []) (by first | rfl | simp [Act.eval]) (hown1) _ (1) ([.bool false, .bool false, .bool ln, .int .u64 (lm lv 0 : Nat), .int .u64 (lm lv 1 : Nat), .int .u64 (lm lv 2 : Nat), .int .u64 (lm lv 3 : Nat), .bool un, .int .u64 (lm uv 0 : Nat), .int .u64 (lm uv 1 : Nat), .int .u64 (lm uv 2 : Nat), .int .u64 (lm uv 3 : Nat)]) (by first | rfl | simp [Act.eval]) (src_row rx twelve_one (by decide)) (by unfold maxLen; omega) (by omega) (by first | omega | (simp; omega)) ?_; intro v2 wb hown2 hg2; have hbB : Below w5.heap.size w5 wb := form_grown (Below.refl _ _) (by (repeat first | with_reducible exact Below.refl _ _ | with_reducible assumption | with_reducible refine Below.drew ?_ | with_reducible refine below_alloc ?_ _ | ((with_reducible refine Below.setCell ?_ ?_ _); rotate_left; (focus (first | with_reducible exact Nat.le_refl _ | (simp; done) | (simp; omega) | omega))) | (with_reducible refine below_trans ?_ (by assumption)))) hg2 hown1; have hsB := hbB.size) | (refine step_append_any rfl (.tmp 61) (.tmp 64) 22 rfl w5.heap.size 37 i0 (.agg #[.bool false, .bool false, .bool false, .int .u64 0, .int .u64 0, .int .u64 0, .int .u64 0, .bool false, .int .u64 0, .int .u64 0, .int .u64 0, .int .u64 0]) 12 88 Tryz.underlying22 hi hz0 hz1 hz2 rfl (by decide) _ (0 + (0) + 1) ([] ++ [] ++ [.bool false, .bool false, .bool ln, .int .u64 (lm lv 0 : Nat), .int .u64 (lm lv 1 : Nat), .int .u64 (lm lv 2 : Nat), .int .u64 (lm lv 3 : Nat), .bool un, .int .u64 (lm uv 0 : Nat), .int .u64 (lm uv 1 : Nat), .int .u64 (lm uv 2 : Nat), .int .u64 (lm uv 3 : Nat)]) (by first | rfl | simp [Act.eval]) (hown2) _ (0) ([]) (by first | rfl | simp [Act.eval]) (src_zero _ _) (by unfold maxLen; omega) (by omega) (by first | omega | (simp; omega)) ?_; intro v3 wc hown3 hg3; have hbC : Below w5.heap.size w5 wc := form_grown (Below.refl _ _) hbB hg3 hown2))
                all_goals (repeat any_goals (first | go_skip | go_guarded | go_step | go_upon | (simp only []; done)))
                all_goals (go_roundw)
                all_goals (first | exact ⟨k + 1, insK ks (0) x, by omega, rfl, PH.out.ins (Prod.ext HX.out.1 HX.out.2) (by have := J1.out; omega) (by rw [← HNN.out]; omega) (.inl rfl) HA.out, ins_done hown3 HNN.out (by omega) (ins_cells HN.out) (Nat.le_trans IH.out.b.size hw5.size) (IH.out.b.trans (below_weak (hw5.trans (below_weak hbC hw5.size)) IH.out.b.size)), fun h => by have := congrArg List.length h; rw [insK_len] at this; cases this⟩ | (simp [intOf]; omega))
              · obtain ⟨g, go, rfl⟩ : ∃ g go, aK = some ⟨g, go, none⟩ := by
                  rcases (KR.out _ (Below.refl _ _)).c with h0 | ⟨g, go, e, -⟩
                  · exact absurd h0 hN0
                  · exact ⟨g, go, e⟩
                have hcr : ¬ cK = j := by have := (KR.out _ (Below.refl _ _)).l; omega
                have hj1 : ¬ (0 : Int) < (j : Int) := by omega
                have hW6 : Below w5.heap.size w5 wr.drew := Below.drew hW5
                go_upto_region 10 with fail
                go_region
                repeat any_goals (first | go_skip | go_guarded | go_step | go_upon | (simp only []; done))
                generalize wr.drew = w2 at *
                have KP := Lib.hid fun (w' : World) (hk : Below w5.heap.size w5 w') => twoc_cells (L5.out _ (Below.refl _ _)) (U5.out _ (Below.refl _ _)) hk
                have hs6 : w5.heap.size ≤ w2.heap.size := hW6.size
                have hq : Below w5.heap.size w5 w2.drew := Below.drew hW6
                have k1 : (0 : Int) ≤ (j : Int) := by omega
                have k2 : (j : Int) ≤ (N : Int) := by omega
                have k4 : (N : Int) ≤ (cK : Int) := by have := (KR.out _ (Below.refl _ _)).l; omega
                have k3 : (j : Int) ≤ (cK : Int) := by omega
                go_region_held3 (fun w' => TwoC w' w4.heap.size ln lv (w4.heap.size + 1) un uv) (first | with_reducible assumption | exact KP.out _ (by (repeat first | with_reducible exact Below.refl _ _ | with_reducible assumption | with_reducible refine Below.drew ?_ | with_reducible refine below_alloc ?_ _ | ((with_reducible refine Below.setCell ?_ ?_ _); rotate_left; (focus (first | with_reducible exact Nat.le_refl _ | (simp; done) | (simp; omega) | omega))) | (with_reducible refine below_trans ?_ (by assumption))))) (first | (have ow := row_e (base := w5.heap.size) (W := w2) hs6; refine step_append_any rfl (.tmp 52) (.tmp 55) 22 rfl w5.heap.size 37 i0 (.agg #[.bool false, .bool false, .bool false, .int .u64 0, .int .u64 0, .int .u64 0, .int .u64 0, .bool false, .int .u64 0, .int .u64 0, .int .u64 0, .int .u64 0]) 12 88 Tryz.underlying22 hi hz0 hz1 hz2 rfl (by decide) _ (0) ([]) (by first | rfl | simp [Act.eval]) (ow) _ (j) (encS (rowL (nthS (ks.map rawS)) 0 (j))) (by first | rfl | simp [Act.eval]) (row_src (KR.out _ (Below.refl _ _)) (by (repeat first | with_reducible exact Below.refl _ _ | with_reducible assumption | with_reducible refine Below.drew ?_ | with_reducible refine below_alloc ?_ _ | ((with_reducible refine Below.setCell ?_ ?_ _); rotate_left; (focus (first | with_reducible exact Nat.le_refl _ | (simp; done) | (simp; omega) | omega))) | (with_reducible refine below_trans ?_ (by assumption)))) 0 j cK go (by omega) (by omega)) (by unfold maxLen; omega) (by omega) (by first | omega | (simp; omega)) ?_; intro v1 wa hown1 hg1; have hbA : Below w5.heap.size w5 wa := form_grown (Below.refl _ _) (by (repeat first | with_reducible exact Below.refl _ _ | with_reducible assumption | with_reducible refine Below.drew ?_ | with_reducible refine below_alloc ?_ _ | ((with_reducible refine Below.setCell ?_ ?_ _); rotate_left; (focus (first | with_reducible exact Nat.le_refl _ | (simp; done) | (simp; omega) | omega))) | (with_reducible refine below_trans ?_ (by assumption)))) hg1 ow; have hsA := hbA.size; skip) | (have ow := (row_e (base := w5.heap.size) (W := w2) hs6).alloc (.cells #[.bool false, .bool false, .bool ln, .int .u64 (lm lv 0 : Nat), .int .u64 (lm lv 1 : Nat), .int .u64 (lm lv 2 : Nat), .int .u64 (lm lv 3 : Nat), .bool un, .int .u64 (lm uv 0 : Nat), .int .u64 (lm uv 1 : Nat), .int .u64 (lm uv 2 : Nat), .int .u64 (lm uv 3 : Nat)] 37); refine step_append_any rfl (.tmp 52) (.tmp 55) 22 rfl w5.heap.size 37 i0 (.agg #[.bool false, .bool false, .bool false, .int .u64 0, .int .u64 0, .int .u64 0, .int .u64 0, .bool false, .int .u64 0, .int .u64 0, .int .u64 0, .int .u64 0]) 12 88 Tryz.underlying22 hi hz0 hz1 hz2 rfl (by decide) _ (0) ([]) (by first | rfl | simp [Act.eval]) (ow) _ (j) (encS (rowL (nthS (ks.map rawS)) 0 (j))) (by first | rfl | simp [Act.eval]) (row_src (KR.out _ (Below.refl _ _)) (by (repeat first | with_reducible exact Below.refl _ _ | with_reducible assumption | with_reducible refine Below.drew ?_ | with_reducible refine below_alloc ?_ _ | ((with_reducible refine Below.setCell ?_ ?_ _); rotate_left; (focus (first | with_reducible exact Nat.le_refl _ | (simp; done) | (simp; omega) | omega))) | (with_reducible refine below_trans ?_ (by assumption)))) 0 j cK go (by omega) (by omega)) (by unfold maxLen; omega) (by omega) (by first | omega | (simp; omega)) ?_; intro v1 wa hown1 hg1; have hbA : Below w5.heap.size w5 wa := form_grown (Below.refl _ _) (by (repeat first | with_reducible exact Below.refl _ _ | with_reducible assumption | with_reducible refine Below.drew ?_ | with_reducible refine below_alloc ?_ _ | ((with_reducible refine Below.setCell ?_ ?_ _); rotate_left; (focus (first | with_reducible exact Nat.le_refl _ | (simp; done) | (simp; omega) | omega))) | (with_reducible refine below_trans ?_ (by assumption)))) hg1 ow; have hsA := hbA.size; have rx := (row_drew (row_x (base := w5.heap.size) (W := w2.alloc (.cells #[] 37)) _ _ _ _ _ _ _ _ _ _ _ _  (by simp; omega))).kept hg1 (row_ne (by simp))) | (have ow := row_e (base := w5.heap.size) (W := w2.alloc (.cells #[.bool false, .bool false, .bool ln, .int .u64 (lm lv 0 : Nat), .int .u64 (lm lv 1 : Nat), .int .u64 (lm lv 2 : Nat), .int .u64 (lm lv 3 : Nat), .bool un, .int .u64 (lm uv 0 : Nat), .int .u64 (lm uv 1 : Nat), .int .u64 (lm uv 2 : Nat), .int .u64 (lm uv 3 : Nat)] 37)) (by simp; omega); refine step_append_any rfl (.tmp 52) (.tmp 55) 22 rfl w5.heap.size 37 i0 (.agg #[.bool false, .bool false, .bool false, .int .u64 0, .int .u64 0, .int .u64 0, .int .u64 0, .bool false, .int .u64 0, .int .u64 0, .int .u64 0, .int .u64 0]) 12 88 Tryz.underlying22 hi hz0 hz1 hz2 rfl (by decide) _ (0) ([]) (by first | rfl | simp [Act.eval]) (ow) _ (j) (encS (rowL (nthS (ks.map rawS)) 0 (j))) (by first | rfl | simp [Act.eval]) (row_src (KR.out _ (Below.refl _ _)) (by (repeat first | with_reducible exact Below.refl _ _ | with_reducible assumption | with_reducible refine Below.drew ?_ | with_reducible refine below_alloc ?_ _ | ((with_reducible refine Below.setCell ?_ ?_ _); rotate_left; (focus (first | with_reducible exact Nat.le_refl _ | (simp; done) | (simp; omega) | omega))) | (with_reducible refine below_trans ?_ (by assumption)))) 0 j cK go (by omega) (by omega)) (by unfold maxLen; omega) (by omega) (by first | omega | (simp; omega)) ?_; intro v1 wa hown1 hg1; have hbA : Below w5.heap.size w5 wa := form_grown (Below.refl _ _) (by (repeat first | with_reducible exact Below.refl _ _ | with_reducible assumption | with_reducible refine Below.drew ?_ | with_reducible refine below_alloc ?_ _ | ((with_reducible refine Below.setCell ?_ ?_ _); rotate_left; (focus (first | with_reducible exact Nat.le_refl _ | (simp; done) | (simp; omega) | omega))) | (with_reducible refine below_trans ?_ (by assumption)))) hg1 ow; have hsA := hbA.size; have rx := (row_drew ((row_x (base := w5.heap.size) (W := w2) _ _ _ _ _ _ _ _ _ _ _ _  hs6).alloc _)).kept hg1 (row_ne (by simp))) | (refine step_append_any rfl (.tmp 56) (.tmp 60) 22 rfl w5.heap.size 37 i0 (.agg #[.bool false, .bool false, .bool false, .int .u64 0, .int .u64 0, .int .u64 0, .int .u64 0, .bool false, .int .u64 0, .int .u64 0, .int .u64 0, .int .u64 0]) 12 88 Tryz.underlying22 hi hz0 hz1 hz2 rfl (by decide) _ (0 + (j)) ([] ++ encS (rowL (nthS (ks.map rawS)) 0 (j))) (by first | rfl | simp [Act.eval]) (hown1.alloc _) _ (1) ([.bool false, .bool false, .bool ln, .int .u64 (lm lv 0 : Nat), .int .u64 (lm lv 1 : Nat), .int .u64 (lm lv 2 : Nat), .int .u64 (lm lv 3 : Nat), .bool un, .int .u64 (lm uv 0 : Nat), .int .u64 (lm uv 1 : Nat), .int .u64 (lm uv 2 : Nat), .int .u64 (lm uv 3 : Nat)]) (by first | rfl | simp [Act.eval]) (src_row (row_x (base := w5.heap.size) (W := wa) _ _ _ _ _ _ _ _ _ _ _ _  hsA) twelve_one (by decide)) (by unfold maxLen; omega) (by omega) (by first | omega | (simp; omega)) ?_; intro v2 wb hown2 hg2; have hbB : Below w5.heap.size w5 wb := form_grown (Below.refl _ _) (by (repeat first | with_reducible exact Below.refl _ _ | with_reducible assumption | with_reducible refine Below.drew ?_ | with_reducible refine below_alloc ?_ _ | ((with_reducible refine Below.setCell ?_ ?_ _); rotate_left; (focus (first | with_reducible exact Nat.le_refl _ | (simp; done) | (simp; omega) | omega))) | (with_reducible refine below_trans ?_ (by assumption)))) hg2 hown1; have hsB := hbB.size) | (refine step_append_any rfl (.tmp 56) (.tmp 60) 22 rfl w5.heap.size 37 i0 (.agg #[.bool false, .bool false, .bool false, .int .u64 0, .int .u64 0, .int .u64 0, .int .u64 0, .bool false, .int .u64 0, .int .u64 0, .int .u64 0, .int .u64 0]) 12 88 Tryz.underlying22 hi hz0 hz1 hz2 rfl (by decide) _ (0 + (j)) ([] ++ encS (rowL (nthS (ks.map rawS)) 0 (j))) (by first | rfl | simp [Act.eval]) (hown1) _ (1) ([.bool false, .bool false, .bool ln, .int .u64 (lm lv 0 : Nat), .int .u64 (lm lv 1 : Nat), .int .u64 (lm lv 2 : Nat), .int .u64 (lm lv 3 : Nat), .bool un, .int .u64 (lm uv 0 : Nat), .int .u64 (lm uv 1 : Nat), .int .u64 (lm uv 2 : Nat), .int .u64 (lm uv 3 : Nat)]) (by first | rfl | simp [Act.eval]) (src_row rx twelve_one (by decide)) (by unfold maxLen; omega) (by omega) (by first | omega | (simp; omega)) ?_; intro v2 wb hown2 hg2; have hbB : Below w5.heap.size w5 wb := form_grown (Below.refl _ _) (by (repeat first | with_reducible exact Below.refl _ _ | with_reducible assumption | with_reducible refine Below.drew ?_ | with_reducible refine below_alloc ?_ _ | ((with_reducible refine Below.setCell ?_ ?_ _); rotate_left; (focus (first | with_reducible exact Nat.le_refl _ | (simp; done) | (simp; omega) | omega))) | (with_reducible refine below_trans ?_ (by assumption)))) hg2 hown1; have hsB := hbB.size) | (refine step_append_any rfl (.tmp 61) (.tmp 64) 22 rfl w5.heap.size 37 i0 (.agg #[.bool false, .bool false, .bool false, .int .u64 0, .int .u64 0, .int .u64 0, .int .u64 0, .bool false, .int .u64 0, .int .u64 0, .int .u64 0, .int .u64 0]) 12 88 Tryz.underlying22 hi hz0 hz1 hz2 rfl (by decide) _ (0 + (j) + 1) ([] ++ encS (rowL (nthS (ks.map rawS)) 0 (j)) ++ [.bool false, .bool false, .bool ln, .int .u64 (lm lv 0 : Nat), .int .u64 (lm lv 1 : Nat), .int .u64 (lm lv 2 : Nat), .int .u64 (lm lv 3 : Nat), .bool un, .int .u64 (lm uv 0 : Nat), .int .u64 (lm uv 1 : Nat), .int .u64 (lm uv 2 : Nat), .int .u64 (lm uv 3 : Nat)]) (by first | rfl | simp [Act.eval]) (hown2) _ (N - j) (encS (rowL (nthS (ks.map rawS)) (j) (N - (j)))) (by first | rfl | simp [Act.eval]) (row_src (KR.out _ (Below.refl _ _)) hbB j (N - j) (cK - j) (go + j * 12) (by omega) rfl) (by unfold maxLen; omega) (by omega) (by first | omega | (simp; omega)) ?_; intro v3 wc hown3 hg3; have hbC : Below w5.heap.size w5 wc := form_grown (Below.refl _ _) hbB hg3 hown2))
                all_goals (repeat any_goals (first | go_skip | go_guarded | go_step | go_upon | (simp only []; done)))
                all_goals (go_roundw)
                all_goals (first | exact ⟨k + 1, insK ks (j) x, by omega, rfl, PH.out.ins (Prod.ext HX.out.1 HX.out.2) (by have := J1.out; omega) (by rw [← HNN.out]; omega) (.inl (by omega)) HA.out, ins_done hown3 HNN.out (by omega) (ins_cells HN.out) (Nat.le_trans IH.out.b.size hw5.size) (IH.out.b.trans (below_weak (hw5.trans (below_weak hbC hw5.size)) IH.out.b.size)), fun h => by have := congrArg List.length h; rw [insK_len] at this; cases this⟩ | (simp [intOf]; omega))
      · have hk' : k = n := by omega
        subst hk'
        have i1 : ¬ (k : Int) < (k : Int) := by omega
        obtain ⟨N, hN⟩ : ∃ N, N = ks.length := ⟨_, rfl⟩
        obtain ⟨aK, cK, e3, hRow⟩ := IH.out.row
        subst e3
        rw [← hN] at hRow ⊢
        have HNN := Lib.hid hN
        have hN6 : N ≤ 1000000 := by have := PH.out.le; omega
        have KR := Lib.hid fun (wx : World) (hb : Below wr.heap.size wr wx) => hRow.below hb
        have W1 := Lib.hid IH.out.b
        have SF := Lib.hid PH.out.set
        have PL := Lib.hid PH.out.le
        clear hN hRow NIL IH PH
        repeat any_goals (first | go_skip | go_guarded | go_step | go_upon | (simp only []; done))
        obtain ⟨w1x, hw1x⟩ : ∃ w1, w1 = wr := ⟨_, rfl⟩
        subst hw1x
        go_loopw [8, 9] (fun v i wq => ∃ k2 : Nat, k2 ≤ N ∧ i = .int .i64 k2 ∧ InsI w1x wq v ((ks.take k2).foldl stepJ [])) (fun _ i _ => N - (intOf i).toNat)
        case atStart => exact ⟨0, Nat.zero_le _, rfl, ⟨World.ownsRow_nil _ _ _ _, Below.refl _ _⟩⟩
        case round =>
          obtain ⟨k2, hk2, rfl, I⟩ := hrel
          by_cases hkn : k2 < N
          · have hkl : k2 < ks.length := by rw [← HNN.out]; exact hkn
            obtain ⟨x, hx⟩ : ∃ x, ks[k2]? = some x := ⟨_, List.getElem?_eq_getElem hkl⟩
            obtain ⟨g, go, rfl, hg, hr⟩ := raw_lit (KR.out _ I.b) hkn hx
            have hstep : (ks.take (k2 + 1)).foldl stepJ [] = stepJ ((ks.take k2).foldl stepJ []) x := by
              rw [List.take_add_one, hx, List.foldl_append]
              rfl
            have hjl : ((ks.take k2).foldl stepJ []).length ≤ k2 := by
              have := foldJ_len (ks.take k2) []
              rw [List.length_take] at this
              simp only [List.length_nil] at this
              omega
            generalize (ks.take k2).foldl stepJ [] = js at I hstep hjl
            have HS := Lib.hid hstep
            obtain ⟨ln, hln⟩ : ∃ n, n = sg x.lo := ⟨_, rfl⟩
            obtain ⟨lv, hlv⟩ : ∃ n, n = ab x.lo := ⟨_, rfl⟩
            obtain ⟨un, hun⟩ : ∃ n, n = sg x.hi := ⟨_, rfl⟩
            obtain ⟨uv, huv⟩ : ∃ n, n = ab x.hi := ⟨_, rfl⟩
            rw [← hln, ← hlv, ← hun, ← huv] at hr
            have HN := Lib.hid (And.intro hln (And.intro hlv (And.intro hun huv)))
            have RB := Lib.hid hr
            obtain ⟨_, _, _, _, _, _, _, _, _, _, _, _⟩ := hr.all
            have i1 : (k2 : Int) < (N : Int) := by omega
            have i2 : (0 : Int) ≤ (k2 : Int) := by omega
            have i5 : (k2 : Int).toNat = k2 := rfl
            have IJ := Lib.hid I
            clear hr hstep hln hlv hun huv hx I
            rcases List.eq_nil_or_concat js with rfl | ⟨js', y, rfl⟩
            · obtain ⟨a', c', rfl⟩ : ∃ a c, u8 = .slice a 0 c := by
                obtain ⟨a, c, e, -⟩ := IJ.out.row
                exact ⟨a, c, e⟩
              repeat any_goals (first | (at_builtin; refine wpList_append_any rfl (.tmp 121) (.tmp 126) 22 rfl w1x.heap.size 37 i0 (.agg #[.bool false, .bool false, .bool false, .int .u64 0, .int .u64 0, .int .u64 0, .int .u64 0, .bool false, .int .u64 0, .int .u64 0, .int .u64 0, .int .u64 0]) 12 88 Tryz.underlying22 hi hz0 hz1 hz2 rfl (by decide) _ (0) ([]) rfl (IJ.out.o.alloc _) _ 1 [.bool false, .bool false, .bool ln, .int .u64 (lm lv 0 : Nat), .int .u64 (lm lv 1 : Nat), .int .u64 (lm lv 2 : Nat), .int .u64 (lm lv 3 : Nat), .bool un, .int .u64 (lm uv 0 : Nat), .int .u64 (lm uv 1 : Nat), .int .u64 (lm uv 2 : Nat), .int .u64 (lm uv 3 : Nat)] rfl (src_row (row_x (base := w1x.heap.size) (W := wr) _ _ _ _ _ _ _ _ _ _ _ _ (by have := IJ.out.b.size; omega)) twelve_one (by decide)) (by unfold maxLen; omega) (by omega) (by first | (have := I2.out.b.size; simp; omega) | (have := IJ.out.b.size; simp; omega)) ?_; intro v' w9 hown' hgrow) | go_skip | go_guarded | go_step | go_upon | (dsimp only []))
              go_roundw
              case rel => exact ⟨k2 + 1, by omega, rfl, by rw [HS.out]; exact IJ.out.keep (below_alloc (Below.refl _ _) _) rfl (by rw [ins_cells HN.out]; exact hown') hgrow⟩
              case measure => simp [intOf]; omega
            · rw [List.concat_eq_append] at IJ hjl HS
              obtain ⟨g2, cap2, e8, hg2, hg3, hc2, hm2, hr2⟩ := raw_last IJ.out.o
              subst e8
              obtain ⟨m, hm⟩ : ∃ m, m = js'.length := ⟨_, rfl⟩
              obtain ⟨N2, hN2⟩ : ∃ N2, N2 = (js' ++ [y]).length := ⟨_, rfl⟩
              have hNm : N2 = m + 1 := by rw [hN2, hm]; simp
              rw [← hN2] at IJ hc2 ⊢
              rw [← hm] at hr2
              obtain ⟨yn, hyn⟩ : ∃ n, n = sg y.hi := ⟨_, rfl⟩
              obtain ⟨yv, hyv⟩ : ∃ n, n = ab y.hi := ⟨_, rfl⟩
              obtain ⟨zn, hzn⟩ : ∃ n, n = sg y.lo := ⟨_, rfl⟩
              obtain ⟨zv, hzv⟩ : ∃ n, n = ab y.lo := ⟨_, rfl⟩
              obtain ⟨q, hq⟩ : ∃ q, nxOk 1 (sg y.hi) (ab y.hi) = q := ⟨_, rfl⟩
              obtain ⟨rn, hrn⟩ : ∃ n, n = sg (nx 1 (sg y.hi) (ab y.hi)) := ⟨_, rfl⟩
              obtain ⟨rv, hrv⟩ : ∃ n, n = ab (nx 1 (sg y.hi) (ab y.hi)) := ⟨_, rfl⟩
              obtain ⟨z1, hz1'⟩ : ∃ z, cmpI (sg x.lo) (ab x.lo) (sg (nx 1 (sg y.hi) (ab y.hi))) (ab (nx 1 (sg y.hi) (ab y.hi))) = z := ⟨_, rfl⟩
              obtain ⟨z2, hz2'⟩ : ∃ z, cmpI (sg x.hi) (ab x.hi) (sg y.hi) (ab y.hi) = z := ⟨_, rfl⟩
              have J := Lib.hid (join_next q z1 hq hz1')
              have J2 := Lib.hid (join_up z2 hz2')
              have CN := Lib.hid fun wx => stepUp_any (sg y.hi) (ab y.hi) y.hh wx
              have C1 := Lib.hid fun wx => RCmp_any (sg x.lo) (ab x.lo) x.hl (sg (nx 1 (sg y.hi) (ab y.hi))) (ab (nx 1 (sg y.hi) (ab y.hi))) (nx_lt _ _ _) (mayI_sg _) (mayI_sg _) wx
              have C2 := Lib.hid fun wx => RCmp_any (sg x.hi) (ab x.hi) x.hh (sg y.hi) (ab y.hi) y.hh (mayI_sg _) (mayI_sg _) wx
              rw [hz1'] at C1
              rw [hz2'] at C2
              rw [hq, ← hrn, ← hrv, ← hyn, ← hyv] at CN
              rw [← HN.out.1, ← HN.out.2.1, ← hrn, ← hrv] at C1
              rw [← HN.out.2.2.1, ← HN.out.2.2.2, ← hyn, ← hyv] at C2
              rw [← hyn, ← hyv, ← hzn, ← hzv] at hr2
              have RO := Lib.hid hr2
              have HM := Lib.hid (And.intro hm (And.intro hN2 hNm))
              obtain ⟨_, _, _, _, _, _, _, _, _, _, _, _⟩ := hr2.all
              have j1 : (0 : Int) < (N2 : Int) := by omega
              have j2 : wrap64 ((N2 : Int) - 1) = (m : Int) := by unfold wrap64; omega
              have j6 : IntKind.i64.wrap ((N2 : Int) - 1) = (m : Int) := by rw [IntKind.wrap_i64]; omega
              have j3 : (0 : Int) ≤ (m : Int) := by omega
              have j4 : (m : Int) < (N2 : Int) := by omega
              have j5 : (m : Int).toNat = m := rfl
              have hN26 : N2 ≤ 1000000 := by rw [hN2]; omega
              clear hr2 hq hrn hrv hyn hyv hzn hzv hz1' hz2' hN2 hm hNm
              go_upto_region 20 with (go_at_call 43; with_reducible refine (CN.out _).mono ?_; rintro e w4 ⟨rfl, hb4⟩; have hs4 : wr.heap.size ≤ w4.heap.size := hb4.size)
              have X5 := Lib.hid (show Below wr.heap.size wr (w4.alloc (.cells #[.bool rn, .int .u64 (lm rv 0 : Nat), .int .u64 (lm rv 1 : Nat), .int .u64 (lm rv 2 : Nat), .int .u64 (lm rv 3 : Nat)] 29)) from below_alloc hb4 _)
              have NX := Lib.hid (@ibox_new w4 rn rv 29)
              have s5 : wr.heap.size ≤ (w4.alloc (.cells #[.bool rn, .int .u64 (lm rv 0 : Nat), .int .u64 (lm rv 1 : Nat), .int .u64 (lm rv 2 : Nat), .int .u64 (lm rv 3 : Nat)] 29)).heap.size := X5.out.size
              generalize w4.alloc (.cells #[.bool rn, .int .u64 (lm rv 0 : Nat), .int .u64 (lm rv 1 : Nat), .int .u64 (lm rv 2 : Nat), .int .u64 (lm rv 3 : Nat)] 29) = w5 at *
              obtain ⟨_, _, _, _, _⟩ := NX.out.all
              have R1 := Lib.hid (RB.out.below X5.out)
              obtain ⟨_, _, _, _, _, _, _, _, _, _, _, _⟩ := R1.out.all
              cases q with
              | false =>
                go_region
                repeat any_goals (first | go_skip | go_guarded | go_step | go_upon | (simp only []; done))
                have hW7 : Below wr.heap.size wr w5.drew := Below.drew X5.out
                generalize w5.drew = w7 at *
                have RX := Lib.hid (RB.out.below hW7)
                have RY := Lib.hid (RO.out.below hW7)
                obtain ⟨_, _, _, _, _, _, _, _, _, _, _, _⟩ := RX.out.all
                obtain ⟨_, _, _, _, _, _, _, _, _, _, _, _⟩ := RY.out.all
                go_upto_region 21 with fail
                (obtain ⟨C_, hC⟩ : ∃ C : World → Prop, C = fun w' => Below (w7).heap.size (w7) w' := ⟨_, rfl⟩; have HC := Lib.hid hC; have hne : ∀ p : Prop, (∀ w1 : World, C_ w1 → p) = p := fun p => propext ⟨fun h => h (w7) (by rw [hC]; exact Below.refl _ _), fun h _ _ => h⟩; clear hC; refine wp_region_quiet_cls (C := C_) (by kernel_rfl) (by kernel_rfl) (by rw [HC.out]; exact (Below.refl _ _).drew) ?_)
                (go_big_quiet_want; go_big_quiet_op; go_big_quiet_on)
                (go_big_quiet_want; go_big_quiet_op; go_big_quiet_on)
                (go_big_quiet_want; refine ⟨.pointer (some ⟨g, go + k2 * 12, none⟩), fun w1 hw1 => ?_, ?_⟩; (rw [HC.out] at hw1; obtain ⟨_, _, _, _, _⟩ := (RX.out.below hw1).all; simp [Oper.quietAt, go_sem, *]); (try simp only [Act.put, List.setIfInBounds_toArray, List.set_cons_zero, List.set_cons_succ]); go_big_quiet_on)
                (go_big_quiet_want; go_big_quiet_op; go_big_quiet_on)
                (go_big_quiet_want; refine ⟨.agg #[.bool un, .int .u64 (lm uv 0 : Nat), .int .u64 (lm uv 1 : Nat), .int .u64 (lm uv 2 : Nat), .int .u64 (lm uv 3 : Nat)], fun w1 hw1 => ?_, ?_⟩; (rw [HC.out] at hw1; obtain ⟨_, _, _, _, _⟩ := (RX.out.below hw1).all; simp [Oper.quietAt, go_sem, *]); (try simp only [Act.put, List.setIfInBounds_toArray, List.set_cons_zero, List.set_cons_succ]); go_big_quiet_on)
                (go_big_quiet_want; go_big_quiet_op; go_big_quiet_on)
                (go_big_quiet_want; go_big_quiet_op; go_big_quiet_on)
                (go_big_quiet_want; refine ⟨.int .i64 (m : Int), fun w1 hw1 => ?_, ?_⟩; (rw [HC.out] at hw1; obtain ⟨_, _, _, _, _⟩ := (RX.out.below hw1).all; simp [Oper.quietAt, go_sem, *]); (try simp only [Act.put, List.setIfInBounds_toArray, List.set_cons_zero, List.set_cons_succ]); go_big_quiet_on)
                (go_big_quiet_want; refine ⟨.pointer (some ⟨g2, m * 12, none⟩), fun w1 hw1 => ?_, ?_⟩; (rw [HC.out] at hw1; obtain ⟨_, _, _, _, _⟩ := (RX.out.below hw1).all; simp [Oper.quietAt, go_sem, *]); (try simp only [Act.put, List.setIfInBounds_toArray, List.set_cons_zero, List.set_cons_succ]); go_big_quiet_on)
                (go_big_quiet_want; go_big_quiet_op; go_big_quiet_on)
                (go_big_quiet_want; refine ⟨.agg #[.bool yn, .int .u64 (lm yv 0 : Nat), .int .u64 (lm yv 1 : Nat), .int .u64 (lm yv 2 : Nat), .int .u64 (lm yv 3 : Nat)], fun w1 hw1 => ?_, ?_⟩; (rw [HC.out] at hw1; obtain ⟨_, _, _, _, _⟩ := (RY.out.below hw1).all; simp [Oper.quietAt, go_sem, *]); (try simp only [Act.put, List.setIfInBounds_toArray, List.set_cons_zero, List.set_cons_succ]); go_big_quiet_on)
                (go_big_quiet_want; go_big_quiet_op; refine ⟨.int .i64 z2, fun w1 hw1 => ?_, ?_⟩; (rw [HC.out] at hw1 ⊢; with_reducible refine (C2.out _).mono ?_; rintro e w4 ⟨rfl, hb4⟩; exact ⟨rfl, below_trans hw1 hb4⟩); go_big_quiet_on)
                (go_big_quiet_want; refine ⟨.bool (decide (0 < z2)), fun w1 hw1 => ?_, ?_⟩; (rw [HC.out] at hw1; obtain ⟨_, _, _, _, _⟩ := (RX.out.below hw1).all; simp [Oper.quietAt, go_sem, *]); (try simp only [Act.put, List.setIfInBounds_toArray, List.set_cons_zero, List.set_cons_succ]); go_big_quiet_on)
                (refine wpQuiet_nil ?_; intro w2 hw2; rw [HC.out] at hw2)
                have hw6 : Below wr.heap.size wr w2 := hW7.trans (below_weak hw2 hW7.size)
                have I2 := Lib.hid (IJ.out.drop hw6)
                have RX := Lib.hid (RB.out.below hw6)
                have RY := Lib.hid (RO.out.below hw6)
                obtain ⟨_, _, _, _, _, _, _, _, _, _, _, _⟩ := RX.out.all
                obtain ⟨_, _, _, _, _, _, _, _, _, _, _, _⟩ := RY.out.all
                have hfz : ∀ j, w2.frozen? ⟨g2, j, none⟩ = false := fun j => by
                  have o := I2.out.o
                  rw [← HM.out.2.1] at o
                  exact o.frozenAt j
                by_cases cz2 : 0 < z2
                · repeat any_goals (first | go_skip | go_guarded | go_step | go_upon | (simp only []; done))
                  go_roundw
                  case rel =>
                    refine ⟨k2 + 1, by omega, rfl, ?_⟩
                    rw [HS.out, stepJ_app, if_pos ((J.out).1 rfl)]
                    have hp := InsI.put (x := x) I2.out HM.out.1 HM.out.2.2 ((J2.out).1 cz2)
                    rw [← HN.out.2.2.1, ← HN.out.2.2.2] at hp
                    exact hp
                  case measure => simp [intOf]; omega
                · repeat any_goals (first | go_skip | go_guarded | go_step | go_upon | (simp only []; done))
                  go_roundw
                  case rel =>
                    refine ⟨k2 + 1, by omega, rfl, ?_⟩
                    rw [HS.out, stepJ_app, if_pos ((J.out).1 rfl), upTo_keep (fun c => cz2 ((J2.out).2 c))]
                    exact I2.out
                  case measure => simp [intOf]; omega
              | true =>
                (obtain ⟨C_, hC⟩ : ∃ C : World → Prop, C = fun w' => Below (w5).heap.size (w5) w' := ⟨_, rfl⟩; have HC := Lib.hid hC; have hne : ∀ p : Prop, (∀ w1 : World, C_ w1 → p) = p := fun p => propext ⟨fun h => h (w5) (by rw [hC]; exact Below.refl _ _), fun h _ _ => h⟩; clear hC; refine wp_region_quiet_cls (C := C_) (by kernel_rfl) (by kernel_rfl) (by rw [HC.out]; exact (Below.refl _ _).drew) ?_)
                (go_big_quiet_want; go_big_quiet_op; go_big_quiet_on)
                (go_big_quiet_want; go_big_quiet_op; go_big_quiet_on)
                (go_big_quiet_want; go_big_quiet_op; go_big_quiet_on)
                (go_big_quiet_want; go_big_quiet_op; go_big_quiet_on)
                (go_big_quiet_want; go_big_quiet_op; go_big_quiet_on)
                (go_big_quiet_want; refine ⟨.pointer (some ⟨g, go + k2 * 12, none⟩), fun w1 hw1 => ?_, ?_⟩; (rw [HC.out] at hw1; obtain ⟨_, _, _, _, _⟩ := (R1.out.below hw1).all; simp [Oper.quietAt, go_sem, *]); (try simp only [Act.put, List.setIfInBounds_toArray, List.set_cons_zero, List.set_cons_succ]); go_big_quiet_on)
                (go_big_quiet_want; go_big_quiet_op; go_big_quiet_on)
                (go_big_quiet_want; refine ⟨.agg #[.bool ln, .int .u64 (lm lv 0 : Nat), .int .u64 (lm lv 1 : Nat), .int .u64 (lm lv 2 : Nat), .int .u64 (lm lv 3 : Nat)], fun w1 hw1 => ?_, ?_⟩; (rw [HC.out] at hw1; obtain ⟨_, _, _, _, _⟩ := (R1.out.below hw1).all; simp [Oper.quietAt, go_sem, *]); (try simp only [Act.put, List.setIfInBounds_toArray, List.set_cons_zero, List.set_cons_succ]); go_big_quiet_on)
                (go_big_quiet_want; refine ⟨.agg #[.bool rn, .int .u64 (lm rv 0 : Nat), .int .u64 (lm rv 1 : Nat), .int .u64 (lm rv 2 : Nat), .int .u64 (lm rv 3 : Nat)], fun w1 hw1 => ?_, ?_⟩; (rw [HC.out] at hw1; obtain ⟨_, _, _, _, _⟩ := (NX.out.below hw1).all; simp [Oper.quietAt, go_sem, *]); (try simp only [Act.put, List.setIfInBounds_toArray, List.set_cons_zero, List.set_cons_succ]); go_big_quiet_on)
                (go_big_quiet_want; go_big_quiet_op; refine ⟨.int .i64 z1, fun w1 hw1 => ?_, ?_⟩; (rw [HC.out] at hw1 ⊢; with_reducible refine (C1.out _).mono ?_; rintro e w4 ⟨rfl, hb4⟩; exact ⟨rfl, below_trans hw1 hb4⟩); go_big_quiet_on)
                (go_big_quiet_want; refine ⟨.bool (decide (z1 ≤ 0)), fun w1 hw1 => ?_, ?_⟩; (rw [HC.out] at hw1; obtain ⟨_, _, _, _, _⟩ := (R1.out.below hw1).all; simp [Oper.quietAt, go_sem, *]); (try simp only [Act.put, List.setIfInBounds_toArray, List.set_cons_zero, List.set_cons_succ]); go_big_quiet_on)
                (go_big_quiet_want; go_big_quiet_op; go_big_quiet_on)
                (refine wpQuiet_nil ?_; intro w2 hw2; rw [HC.out] at hw2)
                have hW7 : Below wr.heap.size wr w2 := X5.out.trans (below_weak hw2 X5.out.size)
                clear hw2
                by_cases cz : z1 ≤ 0
                · repeat any_goals (first | go_skip | go_guarded | go_step | go_upon | (simp only []; done))
                  generalize w2 = w7 at *
                  have RX := Lib.hid (RB.out.below hW7)
                  have RY := Lib.hid (RO.out.below hW7)
                  obtain ⟨_, _, _, _, _, _, _, _, _, _, _, _⟩ := RX.out.all
                  obtain ⟨_, _, _, _, _, _, _, _, _, _, _, _⟩ := RY.out.all
                  go_upto_region 21 with fail
                  (obtain ⟨C_, hC⟩ : ∃ C : World → Prop, C = fun w' => Below (w7).heap.size (w7) w' := ⟨_, rfl⟩; have HC := Lib.hid hC; have hne : ∀ p : Prop, (∀ w1 : World, C_ w1 → p) = p := fun p => propext ⟨fun h => h (w7) (by rw [hC]; exact Below.refl _ _), fun h _ _ => h⟩; clear hC; refine wp_region_quiet_cls (C := C_) (by kernel_rfl) (by kernel_rfl) (by rw [HC.out]; exact (Below.refl _ _).drew) ?_)
                  (go_big_quiet_want; go_big_quiet_op; go_big_quiet_on)
                  (go_big_quiet_want; go_big_quiet_op; go_big_quiet_on)
                  (go_big_quiet_want; refine ⟨.pointer (some ⟨g, go + k2 * 12, none⟩), fun w1 hw1 => ?_, ?_⟩; (rw [HC.out] at hw1; obtain ⟨_, _, _, _, _⟩ := (RX.out.below hw1).all; simp [Oper.quietAt, go_sem, *]); (try simp only [Act.put, List.setIfInBounds_toArray, List.set_cons_zero, List.set_cons_succ]); go_big_quiet_on)
                  (go_big_quiet_want; go_big_quiet_op; go_big_quiet_on)
                  (go_big_quiet_want; refine ⟨.agg #[.bool un, .int .u64 (lm uv 0 : Nat), .int .u64 (lm uv 1 : Nat), .int .u64 (lm uv 2 : Nat), .int .u64 (lm uv 3 : Nat)], fun w1 hw1 => ?_, ?_⟩; (rw [HC.out] at hw1; obtain ⟨_, _, _, _, _⟩ := (RX.out.below hw1).all; simp [Oper.quietAt, go_sem, *]); (try simp only [Act.put, List.setIfInBounds_toArray, List.set_cons_zero, List.set_cons_succ]); go_big_quiet_on)
                  (go_big_quiet_want; go_big_quiet_op; go_big_quiet_on)
                  (go_big_quiet_want; go_big_quiet_op; go_big_quiet_on)
                  (go_big_quiet_want; refine ⟨.int .i64 (m : Int), fun w1 hw1 => ?_, ?_⟩; (rw [HC.out] at hw1; obtain ⟨_, _, _, _, _⟩ := (RX.out.below hw1).all; simp [Oper.quietAt, go_sem, *]); (try simp only [Act.put, List.setIfInBounds_toArray, List.set_cons_zero, List.set_cons_succ]); go_big_quiet_on)
                  (go_big_quiet_want; refine ⟨.pointer (some ⟨g2, m * 12, none⟩), fun w1 hw1 => ?_, ?_⟩; (rw [HC.out] at hw1; obtain ⟨_, _, _, _, _⟩ := (RX.out.below hw1).all; simp [Oper.quietAt, go_sem, *]); (try simp only [Act.put, List.setIfInBounds_toArray, List.set_cons_zero, List.set_cons_succ]); go_big_quiet_on)
                  (go_big_quiet_want; go_big_quiet_op; go_big_quiet_on)
                  (go_big_quiet_want; refine ⟨.agg #[.bool yn, .int .u64 (lm yv 0 : Nat), .int .u64 (lm yv 1 : Nat), .int .u64 (lm yv 2 : Nat), .int .u64 (lm yv 3 : Nat)], fun w1 hw1 => ?_, ?_⟩; (rw [HC.out] at hw1; obtain ⟨_, _, _, _, _⟩ := (RY.out.below hw1).all; simp [Oper.quietAt, go_sem, *]); (try simp only [Act.put, List.setIfInBounds_toArray, List.set_cons_zero, List.set_cons_succ]); go_big_quiet_on)
                  (go_big_quiet_want; go_big_quiet_op; refine ⟨.int .i64 z2, fun w1 hw1 => ?_, ?_⟩; (rw [HC.out] at hw1 ⊢; with_reducible refine (C2.out _).mono ?_; rintro e w4 ⟨rfl, hb4⟩; exact ⟨rfl, below_trans hw1 hb4⟩); go_big_quiet_on)
                  (go_big_quiet_want; refine ⟨.bool (decide (0 < z2)), fun w1 hw1 => ?_, ?_⟩; (rw [HC.out] at hw1; obtain ⟨_, _, _, _, _⟩ := (RX.out.below hw1).all; simp [Oper.quietAt, go_sem, *]); (try simp only [Act.put, List.setIfInBounds_toArray, List.set_cons_zero, List.set_cons_succ]); go_big_quiet_on)
                  (refine wpQuiet_nil ?_; intro w2 hw2; rw [HC.out] at hw2)
                  have hw6 : Below wr.heap.size wr w2 := hW7.trans (below_weak hw2 hW7.size)
                  have I2 := Lib.hid (IJ.out.drop hw6)
                  have RX := Lib.hid (RB.out.below hw6)
                  have RY := Lib.hid (RO.out.below hw6)
                  obtain ⟨_, _, _, _, _, _, _, _, _, _, _, _⟩ := RX.out.all
                  obtain ⟨_, _, _, _, _, _, _, _, _, _, _, _⟩ := RY.out.all
                  have hfz : ∀ j, w2.frozen? ⟨g2, j, none⟩ = false := fun j => by
                    have o := I2.out.o
                    rw [← HM.out.2.1] at o
                    exact o.frozenAt j
                  by_cases cz2 : 0 < z2
                  · repeat any_goals (first | go_skip | go_guarded | go_step | go_upon | (simp only []; done))
                    go_roundw
                    case rel =>
                      refine ⟨k2 + 1, by omega, rfl, ?_⟩
                      rw [HS.out, stepJ_app, if_pos (((J.out).2 rfl).1 cz)]
                      have hp := InsI.put (x := x) I2.out HM.out.1 HM.out.2.2 ((J2.out).1 cz2)
                      rw [← HN.out.2.2.1, ← HN.out.2.2.2] at hp
                      exact hp
                    case measure => simp [intOf]; omega
                  · repeat any_goals (first | go_skip | go_guarded | go_step | go_upon | (simp only []; done))
                    go_roundw
                    case rel =>
                      refine ⟨k2 + 1, by omega, rfl, ?_⟩
                      rw [HS.out, stepJ_app, if_pos (((J.out).2 rfl).1 cz), upTo_keep (fun c => cz2 ((J2.out).2 c))]
                      exact I2.out
                    case measure => simp [intOf]; omega
                · have I2 := Lib.hid (IJ.out.drop hW7)
                  have RX := Lib.hid (RB.out.below hW7)
                  obtain ⟨_, _, _, _, _, _, _, _, _, _, _, _⟩ := RX.out.all
                  have O2 := Lib.hid (show w2.ownsRow w1x.heap.size 37 12 (.slice (some ⟨g2, 0, none⟩) N2 cap2) N2 (encS ((js' ++ [y]).map rawS)) by
                    have o := I2.out.o
                    rw [← HM.out.2.1] at o
                    exact o)
                  repeat any_goals (first | (at_builtin; refine wpList_append_any rfl (.tmp 121) (.tmp 126) 22 rfl w1x.heap.size 37 i0 (.agg #[.bool false, .bool false, .bool false, .int .u64 0, .int .u64 0, .int .u64 0, .int .u64 0, .bool false, .int .u64 0, .int .u64 0, .int .u64 0, .int .u64 0]) 12 88 Tryz.underlying22 hi hz0 hz1 hz2 rfl (by decide) _ (N2) (encS ((js' ++ [y]).map rawS)) rfl (O2.out.alloc _) _ 1 [.bool false, .bool false, .bool ln, .int .u64 (lm lv 0 : Nat), .int .u64 (lm lv 1 : Nat), .int .u64 (lm lv 2 : Nat), .int .u64 (lm lv 3 : Nat), .bool un, .int .u64 (lm uv 0 : Nat), .int .u64 (lm uv 1 : Nat), .int .u64 (lm uv 2 : Nat), .int .u64 (lm uv 3 : Nat)] rfl (src_row (row_x (base := w1x.heap.size) (W := w2) _ _ _ _ _ _ _ _ _ _ _ _ (by have := I2.out.b.size; omega)) twelve_one (by decide)) (by unfold maxLen; omega) (by omega) (by first | (have := I2.out.b.size; simp; omega) | (have := IJ.out.b.size; simp; omega)) ?_; intro v' w9 hown' hgrow) | go_skip | go_guarded | go_step | go_upon | (dsimp only []))
                  go_roundw
                  case rel => exact ⟨k2 + 1, by omega, rfl, by
                    rw [HS.out, stepJ_app, if_neg (fun c => cz (((J.out).2 rfl).2 c))]
                    exact I2.out.keep (m := N2 + 1) (below_alloc (Below.refl _ _) _) (by rw [HM.out.2.1]) (by rw [ins_cells HN.out]; exact hown') hgrow⟩
                  case measure => simp [intOf]; omega
          · have hk2' : k2 = N := by omega
            subst hk2'
            have i1 : ¬ (k2 : Int) < (k2 : Int) := by omega
            have ht : ks.take k2 = ks := by rw [HNN.out, List.take_length]
            rw [ht, show ks.foldl stepJ [] = joinK ks from rfl] at I
            have hJL : (joinK ks).length ≤ k := by
              have := foldJ_len ks []
              have := PL.out
              unfold joinK
              simp only [List.length_nil] at *
              omega
            generalize joinK ks = js at I SF hJL
            obtain ⟨aO, cO, eO, -⟩ := I.row
            obtain ⟨M, hM⟩ : ∃ M, M = js.length := ⟨_, rfl⟩
            subst eO
            have MX : MixI w1x wr (.slice aO js.length cO) js 0 := ⟨by rw [List.take_zero, List.drop_zero]; exact I.o, I.b⟩
            rw [← hM] at MX ⊢
            have HM := Lib.hid hM
            clear hM I ht KR
            repeat any_goals (first | go_skip | go_guarded | go_step | go_upon | (simp only []; done))
            go_loopw [13] (fun i wq => ∃ k3 : Nat, k3 ≤ M ∧ i = .int .i64 k3 ∧ MixI w1x wq (.slice aO M cO) js k3) (fun i _ => M - (intOf i).toNat)
            case atStart => exact ⟨0, Nat.zero_le _, rfl, MX⟩
            case round =>
              obtain ⟨k3, hk3, rfl, I⟩ := hrel
              by_cases hkm : k3 < M
              · obtain ⟨x, hx⟩ : ∃ x, js[k3]? = some x := ⟨_, List.getElem?_eq_getElem (by rw [← HM.out]; exact hkm)⟩
                obtain ⟨g, cap, e1, hg, hfz, hr⟩ := I.lit hx
                injection e1 with e1 _ e3
                subst e1 e3
                obtain ⟨hl, hh, nl, vl, nh, vh, hsx⟩ : ∃ hl hh nl vl nh vh, opS x = ⟨hl, hh, nl, vl, nh, vh⟩ := ⟨_, _, _, _, _, _, rfl⟩
                have CO := Lib.hid fun wx => ROf_lit hsx wx
                have HX := Lib.hid (And.intro hx hsx)
                have IM := Lib.hid I
                generalize sg x.lo = ln at hr CO
                generalize ab x.lo = lv at hr CO
                generalize sg x.hi = un at hr CO
                generalize ab x.hi = uv at hr CO
                have RB := Lib.hid hr
                obtain ⟨_, _, _, _, _, _, _, _, _, _, _, _⟩ := hr.all
                have i1 : (k3 : Int) < (M : Int) := by omega
                have i2 : (0 : Int) ≤ (k3 : Int) := by omega
                have i5 : (k3 : Int).toNat = k3 := rfl
                clear hr hx hsx I
                go_upto_region 27 with fail
                (obtain ⟨C_, hC⟩ : ∃ C_ : World → Prop, C_ = fun w' => Below (wr).heap.size (wr) w' := ⟨_, rfl⟩; have HC := Lib.hid hC; have hne : ∀ p : Prop, (∀ w1 : World, C_ w1 → p) = p := fun p => propext ⟨fun h => h (wr) (by rw [hC]; exact Below.refl _ _), fun h _ _ => h⟩; clear hC; refine wp_region_quiet_tail (C := C_) 14 0 (by kernel_rfl) (by kernel_rfl) (by rw [HC.out]; exact (Below.refl _ _).drew) ?_; simp only [List.take_succ_cons, List.take_zero, List.drop_succ_cons, List.drop_zero])
                (go_big_quiet_want; go_big_quiet_op; go_big_quiet_on)
                (go_big_quiet_want; go_big_quiet_op; go_big_quiet_on)
                (go_big_quiet_want; go_big_quiet_op; go_big_quiet_on)
                (go_big_quiet_want; go_big_quiet_op; go_big_quiet_on)
                (go_big_quiet_want; refine ⟨.pointer (some ⟨g, k3 * 12, none⟩), fun w1 hw1 => ?_, ?_⟩; (rw [HC.out] at hw1; obtain ⟨_, _, _, _, _⟩ := (RB.out.below hw1).all; simp [Oper.quietAt, go_sem, *]); (try simp only [Act.put, List.setIfInBounds_toArray, List.set_cons_zero, List.set_cons_succ]); go_big_quiet_on)
                (go_big_quiet_want; go_big_quiet_op; go_big_quiet_on)
                (go_big_quiet_want; refine ⟨.agg #[.bool ln, .int .u64 (lm lv 0 : Nat), .int .u64 (lm lv 1 : Nat), .int .u64 (lm lv 2 : Nat), .int .u64 (lm lv 3 : Nat)], fun w1 hw1 => ?_, ?_⟩; (rw [HC.out] at hw1; obtain ⟨_, _, _, _, _⟩ := (RB.out.below hw1).all; simp [Oper.quietAt, go_sem, *]); (try simp only [Act.put, List.setIfInBounds_toArray, List.set_cons_zero, List.set_cons_succ]); go_big_quiet_on)
                (go_big_quiet_want; go_big_quiet_op; go_big_quiet_on)
                (go_big_quiet_want; go_big_quiet_op; go_big_quiet_on)
                (go_big_quiet_want; refine ⟨.pointer (some ⟨g, k3 * 12, none⟩), fun w1 hw1 => ?_, ?_⟩; (rw [HC.out] at hw1; obtain ⟨_, _, _, _, _⟩ := (RB.out.below hw1).all; simp [Oper.quietAt, go_sem, *]); (try simp only [Act.put, List.setIfInBounds_toArray, List.set_cons_zero, List.set_cons_succ]); go_big_quiet_on)
                (go_big_quiet_want; go_big_quiet_op; go_big_quiet_on)
                (go_big_quiet_want; refine ⟨.agg #[.bool un, .int .u64 (lm uv 0 : Nat), .int .u64 (lm uv 1 : Nat), .int .u64 (lm uv 2 : Nat), .int .u64 (lm uv 3 : Nat)], fun w1 hw1 => ?_, ?_⟩; (rw [HC.out] at hw1; obtain ⟨_, _, _, _, _⟩ := (RB.out.below hw1).all; simp [Oper.quietAt, go_sem, *]); (try simp only [Act.put, List.setIfInBounds_toArray, List.set_cons_zero, List.set_cons_succ]); go_big_quiet_on)
                (go_big_quiet_want; go_big_quiet_op; refine ⟨.agg #[.bool hl, .bool hh, .bool nl, .int .u64 (lm vl 0 : Nat), .int .u64 (lm vl 1 : Nat), .int .u64 (lm vl 2 : Nat), .int .u64 (lm vl 3 : Nat), .bool nh, .int .u64 (lm vh 0 : Nat), .int .u64 (lm vh 1 : Nat), .int .u64 (lm vh 2 : Nat), .int .u64 (lm vh 3 : Nat)], fun w1 hw1 => ?_, ?_⟩; (rw [HC.out] at hw1 ⊢; with_reducible refine (CO.out _).mono ?_; rintro e w4 ⟨rfl, hb4⟩; exact ⟨rfl, below_trans hw1 hb4⟩); go_big_quiet_on)
                (go_big_quiet_want; refine ⟨.pointer (some ⟨g, k3 * 12, none⟩), fun w1 hw1 => ?_, ?_⟩; (rw [HC.out] at hw1; obtain ⟨_, _, _, _, _⟩ := (RB.out.below hw1).all; simp [Oper.quietAt, go_sem, *]); (try simp only [Act.put, List.setIfInBounds_toArray, List.set_cons_zero, List.set_cons_succ]); go_big_quiet_on)
                (refine wpQuiet_nil ?_; intro w2 hw2; rw [HC.out] at hw2)
                refine wpPure_nil ?_
                have I2 := Lib.hid (IM.out.drop hw2)
                have R2 := Lib.hid (RB.out.below hw2)
                obtain ⟨_, _, _, _, _, _, _, _, _, _, _, _⟩ := R2.out.all
                have hfz2 : ∀ j, w2.frozen? ⟨g, j, none⟩ = false := fun j => by
                  have o := I2.out.o
                  rw [← HM.out] at o
                  exact o.frozenAt j
                repeat any_goals (first | go_skip | go_guarded | go_step | go_upon | (simp only []; done))
                refine NoPanic.normal ?_
                repeat any_goals (first | go_skip | go_guarded | go_step | go_upon | (simp only []; done))
                go_roundw
                case rel => exact ⟨k3 + 1, by omega, rfl, I2.out.put HM.out HX.out.1 HX.out.2⟩
                case measure => simp [intOf]; omega
              · have hk3' : k3 = M := by omega
                subst hk3'
                have i1 : ¬ (k3 : Int) < (k3 : Int) := by omega
                have o := I.o
                rw [HM.out, List.take_length, List.drop_length, List.map_nil, List.append_nil] at o
                have O := Lib.hid (o.mono (base' := w.heap.size) W1.out.size)
                have B := Lib.hid (W1.out.trans (below_weak I.b W1.out.size))
                clear o I
                repeat any_goals (first | go_skip | go_guarded | go_step | go_upon | (simp only []; done))
                exact bodyPost_ret (v := .slice aO k3 cO) (by simp [results, Tryz.results18, go_sem]) rfl ⟨_, rfl, js, SF.out.congr (fun z => ⟨fun hz => ⟨HR.out.symm, hz⟩, fun hz => hz.2⟩), hJL, by rw [HM.out]; exact O.out, B.out⟩
end Go.Proofs.YtekeedjhaakbhaaGreatDoor
