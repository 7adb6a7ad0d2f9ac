/- May, Same of the document. · Plain facts for SpanForms: the ends of spans in the one form; rows of spans put together. -/
import Derived.Test.YtekeedjhaakbhaaGreatDoorEqN
import Derived.Test.YtekeedjhaakbhaaGreatDoorRhB9
import Derived.Test.YtekeedjhaakbhaaGreatDoorPickT
namespace Go.Proofs.YtekeedjhaakbhaaGreatDoor
open Go.RowKit
set_option maxRecDepth 20000 in
set_option maxHeartbeats 4000000 in
theorem RMayS_any (a : Option Addr) (n c : Nat) (S : Nat → Sp) (w : World) (h : SRow w a n c S) : Calls Tryz.prog 42 #[.slice a n c] w fun e w' => e = .returned (.bool (mayR S n)) ∧ Below w.heap.size w w' := by
  obtain ⟨R, hR⟩ : ∃ R, R = mayR S n := ⟨_, rfl⟩
  rw [← hR]
  unfold mayR at hR
  have HR := Lib.hid hR
  have H := Lib.hid h
  have hl := h.l
  have hlc := h.lc
  clear hR h
  simp only [maxLen] at hlc
  by_cases h0 : 1000 < n
  · have i0 : (1000 : Int) < (n : Int) := by omega
    have e : R = false := by rw [HR.out, decide_eq_false (by omega)]; rfl
    subst e
    go_enter Tryz.func42, Tryz.ntmps42
    repeat any_goals (first | go_skip | go_guarded | go_step | go_upon | (simp only []; done))
    exact bodyPost_ret (v := .bool false) (by simp [results, Tryz.results42, go_sem]) rfl ⟨rfl, by (repeat first | with_reducible exact Below.refl _ _ | with_reducible assumption | with_reducible refine Below.drew ?_ | with_reducible refine below_alloc ?_ _ | ((with_reducible refine Below.setCell ?_ ?_ _); rotate_left; (focus (first | with_reducible exact Nat.le_refl _ | (simp; done) | (simp; omega) | omega))) | (with_reducible refine below_trans ?_ (by assumption)))⟩
  · have i0 : ¬ (1000 : Int) < (n : Int) := by omega
    have hn1000 : decide (n ≤ 1000) = true := decide_eq_true (by omega)
    go_enter Tryz.func42, Tryz.ntmps42
    repeat any_goals (first | go_skip | go_guarded | go_step | go_upon | (simp only []; done))
    go_loopw [3] (fun i wr => ∃ k : Nat, k ≤ n ∧ i = .int .i64 k ∧ anyN (fun i => !mayS (S i)) k = false ∧ Below w.heap.size w wr) (fun i _ => n - (intOf i).toNat)
    case atStart => exact ⟨0, Nat.zero_le _, rfl, rfl, Below.refl _ _⟩
    case round =>
      obtain ⟨k, hk, rfl, hA, hW⟩ := hrel
      have HA := Lib.hid hA
      clear hA
      by_cases hkn : k < n
      · obtain ⟨b, off, hl', hh', nl, vl, nh, vh, rfl, hb, hs, hc, hvl, hvh⟩ := sp_lit H.out hkn hW
        have hS := Lib.hid hs
        obtain ⟨c0, c1, c2, c3, c4, c5, c6, c7, c8, c9, c10, c11⟩ := hc.all
        have i1 : (k : Int) < (n : Int) := by omega
        have i2 : (0 : Int) ≤ (k : Int) := by omega
        have i5 : (k : Int).toNat = k := rfl
        obtain ⟨p, hp⟩ : ∃ p, p = mayI nl vl := ⟨_, rfl⟩
        obtain ⟨q, hq⟩ : ∃ p, p = mayI nh vh := ⟨_, rfl⟩
        have C1 := Lib.hid fun wx => RMayI_any nl vl hvl wx
        have C2 := Lib.hid fun wx => RMayI_any nh vh hvh wx
        have Y1 := Lib.hid (z_lm hvl)
        have Y2 := Lib.hid (z_lm hvh)
        rw [← hp] at C1
        rw [← hq] at C2
        have H1 := Lib.hid (And.intro hp.symm hq.symm)
        clear hs hc hvl hvh hp hq
        cases p with
        | false =>
          have e : R = false := by rw [HR.out, hn1000, anyN_of (p := fun i => !mayS (S i)) (show (!mayS (S k)) = true by rw [hS.out]; unfold mayS; simp only [H1.out.1, Bool.false_and, Bool.not_false]) hkn]; rfl
          subst e
          repeat any_goals (first | (go_at_call 29; with_reducible refine (C1.out _).mono ?_; rintro e w1 ⟨rfl, hb1⟩; have X1 := Lib.hid (s12_hb hb1); obtain ⟨_, _, _, _, _, _, _, _, _, _, _, _⟩ := X1.out.all) | go_skip | go_guarded | go_step | go_upon | (dsimp only []))
          exact bodyPost_ret (v := .bool false) (by simp [results, Tryz.results42, go_sem]) rfl ⟨rfl, by (repeat first | with_reducible exact Below.refl _ _ | with_reducible assumption | with_reducible refine Below.drew ?_ | with_reducible refine below_alloc ?_ _ | ((with_reducible refine Below.setCell ?_ ?_ _); rotate_left; (focus (first | with_reducible exact Nat.le_refl _ | (simp; done) | (simp; omega) | omega))) | (with_reducible refine below_trans ?_ (by assumption)))⟩
        | true =>
          cases q with
          | false =>
            have e : R = false := by rw [HR.out, hn1000, anyN_of (p := fun i => !mayS (S i)) (show (!mayS (S k)) = true by rw [hS.out]; unfold mayS; simp only [H1.out.2, Bool.and_false, Bool.false_and, Bool.not_false]) hkn]; rfl
            subst e
            repeat any_goals (first | (go_at_call 29; with_reducible refine (C1.out _).mono ?_; rintro e w1 ⟨rfl, hb1⟩; have X1 := Lib.hid (s12_hb hb1); obtain ⟨_, _, _, _, _, _, _, _, _, _, _, _⟩ := X1.out.all) | (go_at_call 29; with_reducible refine (C2.out _).mono ?_; rintro e w2 ⟨rfl, hb2⟩; have X2 := Lib.hid (X1.out.below hb2); obtain ⟨_, _, _, _, _, _, _, _, _, _, _, _⟩ := X2.out.all) | go_skip | go_guarded | go_step | go_upon | (dsimp only []))
            exact bodyPost_ret (v := .bool false) (by simp [results, Tryz.results42, go_sem]) rfl ⟨rfl, by (repeat first | with_reducible exact Below.refl _ _ | with_reducible assumption | with_reducible refine Below.drew ?_ | with_reducible refine below_alloc ?_ _ | ((with_reducible refine Below.setCell ?_ ?_ _); rotate_left; (focus (first | with_reducible exact Nat.le_refl _ | (simp; done) | (simp; omega) | omega))) | (with_reducible refine below_trans ?_ (by assumption)))⟩
          | true =>
            repeat any_goals (first | (go_at_call 29; with_reducible refine (C1.out _).mono ?_; rintro e w1 ⟨rfl, hb1⟩; have X1 := Lib.hid (s12_hb hb1); obtain ⟨_, _, _, _, _, _, _, _, _, _, _, _⟩ := X1.out.all) | (go_at_call 29; with_reducible refine (C2.out _).mono ?_; rintro e w2 ⟨rfl, hb2⟩; have X2 := Lib.hid (X1.out.below hb2); obtain ⟨_, _, _, _, _, _, _, _, _, _, _, _⟩ := X2.out.all) | go_skip | go_guarded | go_step | go_upon | (dsimp only []))
            all_goals clear C1 C2
            all_goals first
              | (have e : R = false := by
                   rw [HR.out, hn1000, anyN_of (p := fun i => !mayS (S i)) (show (!mayS (S k)) = true by rw [hS.out]; unfold mayS; simp only [H1.out.1, H1.out.2, Y1.out, Y2.out]; simp [*] <;> omega) hkn]; rfl
                 subst e
                 exact bodyPost_ret (v := .bool false) (by simp [results, Tryz.results42, go_sem]) rfl ⟨rfl, by (repeat first | with_reducible exact Below.refl _ _ | with_reducible assumption | with_reducible refine Below.drew ?_ | with_reducible refine below_alloc ?_ _ | ((with_reducible refine Below.setCell ?_ ?_ _); rotate_left; (focus (first | with_reducible exact Nat.le_refl _ | (simp; done) | (simp; omega) | omega))) | (with_reducible refine below_trans ?_ (by assumption)))⟩)
              | (refine ⟨⟨k + 1, by omega, rfl, ?_, by (repeat first | with_reducible exact Below.refl _ _ | with_reducible assumption | with_reducible refine Below.drew ?_ | with_reducible refine below_alloc ?_ _ | ((with_reducible refine Below.setCell ?_ ?_ _); rotate_left; (focus (first | with_reducible exact Nat.le_refl _ | (simp; done) | (simp; omega) | omega))) | (with_reducible refine below_trans ?_ (by assumption)))⟩, ?_⟩
                 · simp only [anyN]; rw [HA.out, hS.out]; unfold mayS; simp only [H1.out.1, H1.out.2, Y1.out, Y2.out]; simp [*] <;> omega
                 · simp [intOf]; omega)
      · have hk' : k = n := by omega
        subst hk'
        have i1 : ¬ (k : Int) < (k : Int) := by omega
        have e : R = true := by rw [HR.out, hn1000, HA.out]; rfl
        subst e
        repeat any_goals (first | go_skip | go_guarded | go_step | go_upon | (simp only []; done))
        exact bodyPost_ret (v := .bool true) (by simp [results, Tryz.results42, go_sem]) rfl ⟨rfl, hW⟩
end Go.Proofs.YtekeedjhaakbhaaGreatDoor

namespace Go.Proofs.YtekeedjhaakbhaaGreatDoor
open Go Go.RowKit
theorem sgab {z : Int} : (sg z = true ∧ ab z = topN) ↔ z = -tI := by
  unfold sg ab tI
  simp only [decide_eq_true_eq]
  have : topN = 2 ^ 256 - 1 := by decide +kernel
  omega
theorem sgab2 {z : Int} : (sg z = false ∧ ab z = topN) ↔ z = tI := by
  unfold sg ab tI
  simp only [decide_eq_false_iff_not]
  have : topN = 2 ^ 256 - 1 := by decide +kernel
  omega
theorem opS_lo {x : Cl} (h : x.lo ≠ -tI) : (opS x).hl = true ∧ (opS x).nl = sg x.lo ∧ (opS x).vl = ab x.lo := by
  have c : ¬ (sg x.lo = true ∧ ab x.lo = topN) := fun e => h (sgab.1 e)
  have d : (sg x.lo == true && ab x.lo == topN) = false := by
    rw [← Bool.not_eq_true]
    simpa using c
  refine ⟨?_, if_neg c, if_neg c⟩
  show (!(sg x.lo == true && ab x.lo == topN)) = true
  rw [d]
  rfl
theorem opS_hi {x : Cl} (h : x.hi ≠ tI) : (opS x).hh = true ∧ (opS x).nh = sg x.hi ∧ (opS x).vh = ab x.hi := by
  have c : ¬ (sg x.hi = false ∧ ab x.hi = topN) := fun e => h (sgab2.1 e)
  have d : (sg x.hi == false && ab x.hi == topN) = false := by
    rw [← Bool.not_eq_true]
    simpa using c
  refine ⟨?_, if_neg c, if_neg c⟩
  show (!(sg x.hi == false && ab x.hi == topN)) = true
  rw [d]
  rfl
theorem opS_lo2 {x : Cl} (h : (opS x).hl = true) : x.lo ≠ -tI := by
  intro e
  have c := sgab.2 e
  unfold opS at h
  simp [c.1, c.2] at h
theorem opS_hi2 {x : Cl} (h : (opS x).hh = true) : x.hi ≠ tI := by
  intro e
  have c := sgab2.2 e
  unfold opS at h
  simp [c.1, c.2] at h
theorem NF_get : ∀ {l : List Cl}, NF (l.map Cl.iv) → ∀ (i j : Nat) (x y : Cl), i < j → l[i]? = some x → l[j]? = some y → x.hi + 1 < y.lo := by
  intro l
  induction l with
  | nil => intro _ i j x y _ hx; cases hx
  | cons c t ih =>
    intro h i j x y hij hx hy
    cases j with
    | zero => omega
    | succ j =>
      have hy' : t[j]? = some y := hy
      cases i with
      | zero =>
        obtain rfl : c = x := Option.some.inj hx
        exact h.2.1 y.iv (List.mem_map.2 ⟨y, List.mem_of_getElem? hy', rfl⟩)
      | succ i => exact ih h.tail i j x y (by omega) hx hy'
/-- what SpanForms asks of one span -/
structure FormP (m k : Nat) (s : Sp) : Prop where
  lo : 0 < k → s.hl = true
  hi : k + 1 < m → s.hh = true
  le : s.hl = true → s.hh = true → mayI s.nl s.vl = true ∧ mayI s.nh s.vh = true ∧ cmpI s.nl s.vl s.nh s.vh ≤ 0
theorem form_one {l : List Cl} (h : NF (l.map Cl.iv)) {k : Nat} (hk : k < l.length) : FormP l.length k (nthS (l.map opS) k) := by
  rw [nth_map hk]
  have hx : l[k]? = some l[k] := List.getElem?_eq_getElem hk
  have hle : l[k].lo ≤ l[k].hi := NF_ok h l[k].iv (List.mem_map.2 ⟨_, List.getElem_mem hk, rfl⟩)
  generalize l[k] = x at hx hle
  refine ⟨fun h0 => ?_, fun h1 => ?_, fun h2 h3 => ?_⟩
  · have hy : l[k - 1]? = some l[k - 1] := List.getElem?_eq_getElem (by omega)
    have := NF_get h (k - 1) k _ _ (by omega) hy hx
    have := l[k - 1].inH
    exact (opS_lo (by omega)).1
  · have hy : l[k + 1]? = some l[k + 1] := List.getElem?_eq_getElem h1
    have := NF_get h k (k + 1) _ _ (by omega) hx hy
    have := l[k + 1].inL
    exact (opS_hi (by omega)).1
  · obtain ⟨-, e1, e2⟩ := opS_lo (opS_lo2 h2)
    obtain ⟨-, e3, e4⟩ := opS_hi (opS_hi2 h3)
    rw [e1, e2, e3, e4, cmpI_sg]
    refine ⟨mayI_sg _, mayI_sg _, ?_⟩
    unfold cmpZ
    split
    · omega
    · split <;> omega
/-- and of its neighbour -/
theorem form_two {l : List Cl} (h : NF (l.map Cl.iv)) {k : Nat} (hk : k + 1 < l.length) {p s : Sp} (hp : nthS (l.map opS) k = p) (hs : nthS (l.map opS) (k + 1) = s) :
    nxOk 1 p.nh p.vh = true ∧ mayI s.nl s.vl = true ∧ cmpI (sg (nx 1 p.nh p.vh)) (ab (nx 1 p.nh p.vh)) s.nl s.vl < 0 := by
  rw [nth_map (by omega)] at hp
  rw [nth_map hk] at hs
  subst hp hs
  have hx : l[k]? = some l[k] := List.getElem?_eq_getElem (by omega)
  have hy : l[k + 1]? = some l[k + 1] := List.getElem?_eq_getElem hk
  have hlt := NF_get h k (k + 1) _ _ (by omega) hx hy
  generalize l[k] = x at *
  generalize l[k + 1] = y at *
  have h1 := x.inH
  have h2 := y.inL
  obtain ⟨-, e1, e2⟩ := opS_lo (x := y) (by omega)
  obtain ⟨-, e3, e4⟩ := opS_hi (x := x) (by omega)
  rw [e1, e2, e3, e4]
  have ez : zI (sg x.hi) (ab x.hi) = x.hi := zI_sg _
  have ok : nxOk 1 (sg x.hi) (ab x.hi) = true := by
    unfold nxOk
    rw [mayI_sg, ez, Bool.true_and, decide_eq_true_eq]
    exact inR_ab.1 ⟨by omega, by omega⟩
  refine ⟨ok, mayI_sg _, ?_⟩
  unfold nx
  rw [if_pos ok, ez, cmpI_sg]
  exact (cmpZ_neg2 _ _).2 (by omega)
/-! ### rows put together -/
def rowL (S : Nat → Sp) (i m : Nat) : List Sp := (List.range m).map fun j => S (i + j)
theorem rowL_len (S : Nat → Sp) (i m : Nat) : (rowL S i m).length = m := by unfold rowL; simp
theorem rowL_nth {S : Nat → Sp} {i m j : Nat} (h : j < m) : nthS (rowL S i m) j = S (i + j) := by
  unfold nthS rowL
  rw [List.getD_eq_getElem?_getD, List.getElem?_map, List.getElem?_range h]
  rfl
theorem cells_one (s : Sp) : ∀ u ∈ s.cells, u.oneCell' = true := by
  intro u hu
  unfold Sp.cells at hu
  exact twelve_one u hu
theorem encS_one (l : List Sp) : ∀ u ∈ encS l, u.oneCell' = true := by
  intro u hu
  obtain ⟨c, -, hc⟩ := List.mem_flatMap.1 hu
  exact cells_one c u hc
theorem addr_off {b o j : Nat} : (⟨b, o, none⟩ : Addr).add j = ⟨b, o + j, none⟩ := by
  unfold Addr.add
  split <;> simp_all
theorem row_src {w wr : World} {b off n c : Nat} {S : Nat → Sp} (h : SRow w (some ⟨b, off, none⟩) n c S) (hb : Below w.heap.size w wr) (i m c' o : Nat) (hi : i + m ≤ n) (ho : o = off + i * 12) : SrcOk wr (.slice (some ⟨b, o, none⟩) m c') m 12 (encS (rowL S i m)) := by
  subst ho
  refine .inl ⟨_, c', rfl, by rw [encS_len, rowL_len], fun j u hj => ?_, encS_one _⟩
  have hlt : j < m * 12 := by
    have := (List.getElem?_eq_some_iff.1 hj).1
    rwa [encS_len, rowL_len] at this
  rcases (h.below hb).c with h0 | ⟨b', off', e, hl, hc⟩
  · omega
  · obtain ⟨rfl, rfl⟩ : b = b' ∧ off = off' := by
      injection e with e
      injection e with e1 e2 _
      exact ⟨e1, e2⟩
    have hd : j = (j / 12) * 12 + j % 12 := by omega
    rw [hd, encS_get _ _ _ (by rw [rowL_len]; omega) (by omega), rowL_nth (by omega)] at hj
    rw [addr_off, ← hj, ← hc (i + j / 12) (by omega) (j % 12) (by omega)]
    congr 2
    omega
theorem row_src0 {w wr : World} {a : Option Addr} {c : Nat} {S : Nat → Sp} (h : SRow w a 0 c S) (i : Nat) : SrcOk wr (.slice a 0 c) 0 12 (encS (rowL S i 0)) := by
  cases a with
  | none => exact .inr ⟨c, rfl, rfl, rfl⟩
  | some ad => exact .inl ⟨ad, c, rfl, rfl, fun j u hj => by simp [encS, rowL] at hj, encS_one _⟩
theorem encS_app (l m : List Sp) : encS (l ++ m) = encS l ++ encS m := by unfold encS; rw [List.flatMap_append]
def mixL (S : Nat → Sp) (n r : Nat) : List Sp := rowL S r (n - r) ++ rowL S 0 r ++ rowL S 0 n
theorem mix_len (S : Nat → Sp) {n r : Nat} (hr : r ≤ n) : (mixL S n r).length = n + n := by
  unfold mixL
  simp only [List.length_append, rowL_len]
  omega
theorem mem_row {S : Nat → Sp} {i m : Nat} {s : Sp} : s ∈ rowL S i m ↔ ∃ j, j < m ∧ s = S (i + j) := by
  unfold rowL
  simp only [List.mem_map, List.mem_range]
  exact ⟨fun ⟨j, hj, e⟩ => ⟨j, hj, e.symm⟩, fun ⟨j, hj, e⟩ => ⟨j, hj, e.symm⟩⟩
theorem mem_mix {S : Nat → Sp} {n r : Nat} (hr : r ≤ n) {s : Sp} : s ∈ mixL S n r ↔ ∃ j, j < n ∧ s = S j := by
  unfold mixL
  simp only [List.mem_append, mem_row]
  constructor
  · rintro ((⟨j, hj, e⟩ | ⟨j, hj, e⟩) | ⟨j, hj, e⟩)
    · exact ⟨r + j, by omega, e⟩
    · exact ⟨0 + j, by omega, e⟩
    · exact ⟨0 + j, by omega, e⟩
  · rintro ⟨j, hj, e⟩
    exact .inr ⟨j, hj, by rw [Nat.zero_add]; exact e⟩
theorem ins_list {l : List Sp} {z : Int} : InS (nthS l) l.length z ↔ ∃ s, s ∈ l ∧ s.iv.1 ≤ z ∧ z ≤ s.iv.2 := by
  constructor
  · rintro ⟨i, hi, h⟩
    exact ⟨_, List.mem_of_getElem? (nth_get hi), h⟩
  · rintro ⟨s, hs, h⟩
    obtain ⟨i, hi⟩ := List.getElem?_of_mem hs
    obtain ⟨hi2, -⟩ := List.getElem?_eq_some_iff.1 hi
    have e := nth_get hi2
    rw [hi] at e
    obtain rfl := Option.some.inj e
    exact ⟨i, hi2, h⟩
theorem mix_ins {S : Nat → Sp} {n r : Nat} (hr : r ≤ n) (z : Int) : InS (nthS (mixL S n r)) (mixL S n r).length z ↔ InS S n z := by
  rw [ins_list]
  constructor
  · rintro ⟨s, hs, h⟩
    obtain ⟨j, hj, rfl⟩ := (mem_mix hr).1 hs
    exact ⟨j, hj, h⟩
  · rintro ⟨j, hj, h⟩
    exact ⟨S j, (mem_mix hr).2 ⟨j, hj, rfl⟩, h⟩
theorem mayR_mk {T : Nat → Sp} {m : Nat} (hm : m ≤ 1000) (h : ∀ i, i < m → mayS (T i) = true) : mayR T m = true := by
  unfold mayR
  rw [decide_eq_true hm, Bool.true_and]
  cases c : anyN (fun i => !mayS (T i)) m with
  | false => rfl
  | true =>
    exfalso
    have hn : ∀ q, q ≤ m → anyN (fun i => !mayS (T i)) q = false := by
      intro q
      induction q with
      | zero => intro _; rfl
      | succ q ih =>
        intro hq
        simp only [anyN]
        rw [ih (by omega), h q (by omega)]
        rfl
    rw [hn _ (Nat.le_refl _)] at c
    cases c
theorem mix_may {S : Nat → Sp} {n r : Nat} (hr : r ≤ n) (hn : n ≤ 12) (h : mayR S n = true) : mayR (nthS (mixL S n r)) (mixL S n r).length = true := by
  refine mayR_mk (by rw [mix_len S hr]; omega) fun i hi => ?_
  obtain ⟨j, hj, e⟩ := (mem_mix hr).1 (List.mem_of_getElem? (nth_get hi))
  rw [e]
  exact mayR_i h hj
end Go.Proofs.YtekeedjhaakbhaaGreatDoor
