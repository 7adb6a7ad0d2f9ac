/- span.closeAll of the program: the closed intervals of a row of spans, those that are not empty. -/
import Derived.Test.YtekeedjhaakbhaaGreatDoorSpE
import Derived.Test.YtekeedjhaakbhaaGreatDoorCmS
import Derived.Deep.Onto
import Derived.Laws.AppendOwn
import Derived.OwnWalk
namespace Go.Proofs.YtekeedjhaakbhaaGreatDoor
open Go.RowKit
def Sp.iv (s : Sp) : Iv := (if s.hl then zI s.nl s.vl else zI true topN, if s.hh then zI s.nh s.vh else zI false topN)
def ivs (S : Nat → Sp) : Nat → List Iv
  | 0 => []
  | k + 1 => ivs S k ++ (if (S k).iv.1 ≤ (S k).iv.2 then [(S k).iv] else [])
def encs (l : List Cl) : List Value := l.flatMap Cl.enc
theorem enc_len (c : Cl) : c.enc.length = 10 := rfl
theorem encs_len (l : List Cl) : (encs l).length = l.length * 10 := by
  induction l with
  | nil => rfl
  | cons c t ih =>
    show (c.enc ++ encs t).length = _
    rw [List.length_append, ih, enc_len, List.length_cons]
    omega
theorem ivs_le (S : Nat → Sp) : ∀ k, (ivs S k).length ≤ k := by
  intro k
  induction k with
  | zero => exact Nat.le_refl _
  | succ k ih =>
    simp only [ivs, List.length_append]
    split <;> simp <;> omega
theorem own_below {w w' : World} {B e size n : Nat} {v : Value} {xs : List Value} (h : w.ownsRow B e size v n xs) (hb : Below w.heap.size w w') : w'.ownsRow B e size v n xs := by
  refine ⟨h.1, ?_⟩
  rcases h.2 with hn | ⟨g, cap, cur, rfl, hg, hgg, rest⟩
  · exact .inl hn
  · exact .inr ⟨g, cap, cur, rfl, hg, by rw [hb.block g (Array.getElem?_eq_some_iff.1 hgg).1]; exact hgg, rest⟩
theorem below_weak {B C : Nat} {w w' : World} (h : Below C w w') (hb : B ≤ C) : Below B w w' := ⟨h.os, h.tape, h.output, h.size, fun k hk => h.block k (by omega)⟩
/-- the cells of the two ends -/
structure EK (w : World) (E : Nat) : Prop where
  a : w.cell? ⟨E, 0, none⟩ = some (.bool true) ∧ w.cell? ⟨E, 1, none⟩ = some (.int .u64 (lm topN 0 : Nat)) ∧ w.cell? ⟨E, 2, none⟩ = some (.int .u64 (lm topN 1 : Nat)) ∧ w.cell? ⟨E, 3, none⟩ = some (.int .u64 (lm topN 2 : Nat)) ∧ w.cell? ⟨E, 4, none⟩ = some (.int .u64 (lm topN 3 : Nat))
  b : w.cell? ⟨E + 1, 0, none⟩ = some (.bool false) ∧ w.cell? ⟨E + 1, 1, none⟩ = some (.int .u64 (lm topN 0 : Nat)) ∧ w.cell? ⟨E + 1, 2, none⟩ = some (.int .u64 (lm topN 1 : Nat)) ∧ w.cell? ⟨E + 1, 3, none⟩ = some (.int .u64 (lm topN 2 : Nat)) ∧ w.cell? ⟨E + 1, 4, none⟩ = some (.int .u64 (lm topN 3 : Nat))
theorem EK.below {w w' : World} {E : Nat} (h : EK w E) (hb : Below (E + 1 + 1) w w') : EK w' E := by
  have h0 : ∀ {j : Nat} {v : Value}, w.cell? ⟨E, j, none⟩ = some v → w'.cell? ⟨E, j, none⟩ = some v := fun {j v} hc => by
    rw [hb.cell (p := ⟨E, j, none⟩) (by show E < E + 1 + 1; omega)]; exact hc
  have h1 : ∀ {j : Nat} {v : Value}, w.cell? ⟨E + 1, j, none⟩ = some v → w'.cell? ⟨E + 1, j, none⟩ = some v := fun {j v} hc => by
    rw [hb.cell (p := ⟨E + 1, j, none⟩) (by show E + 1 < E + 1 + 1; omega)]; exact hc
  obtain ⟨a0, a1, a2, a3, a4⟩ := h.a
  obtain ⟨b0, b1, b2, b3, b4⟩ := h.b
  exact ⟨⟨h0 a0, h0 a1, h0 a2, h0 a3, h0 a4⟩, ⟨h1 b0, h1 b1, h1 b2, h1 b3, h1 b4⟩⟩
/-- what the loop of closeAll keeps -/
structure CloseI (w wr : World) (E : Nat) (v : Value) (ks : List Iv) : Prop where
  o : ∃ l : List Cl, l.map Cl.iv = ks ∧ wr.ownsRow (E + 1 + 1) 51 10 v l.length (encs l)
  e : EK wr E
  b : Below w.heap.size w wr
  l : w.heap.size ≤ E ∧ E + 1 + 1 ≤ wr.heap.size
theorem CloseI.drop {w wr w1 : World} {E : Nat} {v : Value} {ks : List Iv} (h : CloseI w wr E v ks) (hb : Below wr.heap.size wr w1) : CloseI w w1 E v ks := by
  obtain ⟨l, hl, ho⟩ := h.o
  have := h.l
  have := hb.size
  exact ⟨⟨l, hl, own_below ho hb⟩, h.e.below (below_weak hb (by omega)), h.b.trans (below_weak hb (by omega)), by omega, by omega⟩
theorem CloseI.keep {w w1 w2 : World} {E m : Nat} {v v' : Value} {ks : List Iv} {l : List Cl} {x : Cl} {ob : Obj} (h : CloseI w w1 E v ks) (hl : l.map Cl.iv = ks) (hm : m = l.length + 1)
    (ho : w1.ownsRow (E + 1 + 1) 51 10 v l.length (encs l)) (h2 : w2.ownsRow (E + 1 + 1) 51 10 v' m (encs l ++ x.enc)) (hg : (w1.alloc ob).grownBy w2 v.ownBlock) : CloseI w w2 E v' (ks ++ [x.iv]) := by
  subst hm
  have hs := hg.size
  simp only [World.size_alloc] at hs
  have hle := h.l
  have B2 : Below (E + 1 + 1) w1 w2 := ((Below.refl (E + 1 + 1) w1).alloc (by omega) ob).grown hg (by simp only [World.size_alloc]; omega) (fun k hk => (ho.lt _ hk).1)
  refine ⟨⟨l ++ [x], by rw [List.map_append, hl]; rfl, ?_⟩, h.e.below B2, h.b.trans (below_weak B2 (by omega)), by omega, by omega⟩
  have e : encs (l ++ [x]) = encs l ++ x.enc := by unfold encs; rw [List.flatMap_append]; simp
  rw [e, List.length_append]
  exact h2
theorem infoC : (Tryz.prog.info? 51).map (fun i => (i.zero, i.size, i.bytes)) = some (some (.agg #[.bool false, .int .u64 0, .int .u64 0, .int .u64 0, .int .u64 0, .bool false, .int .u64 0, .int .u64 0, .int .u64 0, .int .u64 0]), 10, 80) := by kernel_rfl
def mkC {a b : Bool} {A B : Nat} (hA : A < 2 ^ 256) (hB : B < 2 ^ 256) : Cl := ⟨zI a A, zI b B, by rw [show (zI a A).natAbs = A from ab_zI a A]; exact hA, by rw [show (zI b B).natAbs = B from ab_zI b B]; exact hB⟩
theorem mkC_enc {a b : Bool} {A B : Nat} (hA : A < 2 ^ 256) (hB : B < 2 ^ 256) (ma : mayI a A = true) (mb : mayI b B = true) : (mkC (a := a) (b := b) hA hB).enc = [.bool a, .int .u64 (lm A 0 : Nat), .int .u64 (lm A 1 : Nat), .int .u64 (lm A 2 : Nat), .int .u64 (lm A 3 : Nat), .bool b, .int .u64 (lm B 0 : Nat), .int .u64 (lm B 1 : Nat), .int .u64 (lm B 2 : Nat), .int .u64 (lm B 3 : Nat)] := by
  unfold Cl.enc mkC
  simp only [sg_zI ma, sg_zI mb, ab_zI]

theorem topN_lt : topN < 2 ^ 256 := by decide
theorem may_topT : mayI true topN = true := by decide
theorem may_topF : mayI false topN = true := rfl
theorem cmpI_le {a b : Bool} {A B : Nat} (ma : mayI a A = true) (mb : mayI b B = true) : cmpI a A b B ≤ 0 ↔ zI a A ≤ zI b B := by
  have e : cmpI a A b B = cmpZ (zI a A) (zI b B) := by unfold cmpI; rw [ma, mb]; rfl
  rw [e]
  unfold cmpZ
  split
  · omega
  · split <;> omega
theorem closeI_up {w w1 w2 : World} {E k : Nat} {v v' : Value} {S : Nat → Sp} {s : Sp} {l : List Cl} {x : Cl} {xs : List Value} {ob : Obj} {z p q : Int} (hs : S k = s) (hz : z ≤ 0 ↔ p ≤ q) (cz : z ≤ 0) (hp : s.iv = (p, q)) (h : CloseI w w1 E v (ivs S k)) (hl : l.map Cl.iv = ivs S k)
    (ho : w1.ownsRow (E + 1 + 1) 51 10 v l.length (encs l)) (hx : x.enc = xs) (h2 : w2.ownsRow (E + 1 + 1) 51 10 v' (l.length + 1) (encs l ++ xs)) (hg : (w1.alloc ob).grownBy w2 v.ownBlock) (hv : x.iv = (p, q) := by rfl) : CloseI w w2 E v' (ivs S (k + 1)) := by
  subst hx
  have e : ivs S (k + 1) = ivs S k ++ [x.iv] := by
    simp only [ivs]
    rw [hs, hp, if_pos (hz.1 cz), hv]
  rw [e]
  exact h.keep hl rfl ho h2 hg
theorem closeI_no {w w1 : World} {E k : Nat} {v : Value} {S : Nat → Sp} {s : Sp} {z p q : Int} (hs : S k = s) (hz : z ≤ 0 ↔ p ≤ q) (cz : ¬ z ≤ 0) (hp : s.iv = (p, q)) (h : CloseI w w1 E v (ivs S k)) : CloseI w w1 E v (ivs S (k + 1)) := by
  have e : ivs S (k + 1) = ivs S k := by
    simp only [ivs]
    rw [hs, hp, if_neg (fun c => cz (hz.2 c)), List.append_nil]
  rw [e]
  exact h
theorem ten_cells {w1 : World} {t : TypeId} {v0 v1 v2 v3 v4 v5 v6 v7 v8 v9 : Value} : ∀ (j : Nat) (u : Value), [v0, v1, v2, v3, v4, v5, v6, v7, v8, v9][j]? = some u → (w1.alloc (.cells #[v0, v1, v2, v3, v4, v5, v6, v7, v8, v9] t)).cell? ((⟨w1.heap.size, 0, none⟩ : Addr).add j) = some u := by
  intro j u hj
  match j, hj with
  | 0, hj => simp at hj; subst hj; simp [Addr.add, go_sem]
  | 1, hj => simp at hj; subst hj; simp [Addr.add, go_sem]
  | 2, hj => simp at hj; subst hj; simp [Addr.add, go_sem]
  | 3, hj => simp at hj; subst hj; simp [Addr.add, go_sem]
  | 4, hj => simp at hj; subst hj; simp [Addr.add, go_sem]
  | 5, hj => simp at hj; subst hj; simp [Addr.add, go_sem]
  | 6, hj => simp at hj; subst hj; simp [Addr.add, go_sem]
  | 7, hj => simp at hj; subst hj; simp [Addr.add, go_sem]
  | 8, hj => simp at hj; subst hj; simp [Addr.add, go_sem]
  | 9, hj => simp at hj; subst hj; simp [Addr.add, go_sem]
  | n + 10, hj => simp at hj
theorem ten_one {a b : Bool} {A B : Nat} : ∀ u ∈ ([.bool a, .int .u64 (lm A 0 : Nat), .int .u64 (lm A 1 : Nat), .int .u64 (lm A 2 : Nat), .int .u64 (lm A 3 : Nat), .bool b, .int .u64 (lm B 0 : Nat), .int .u64 (lm B 1 : Nat), .int .u64 (lm B 2 : Nat), .int .u64 (lm B 3 : Nat)] : List Value), u.oneCell' = true := by
  intro v hv
  simp only [List.mem_cons, List.not_mem_nil, or_false] at hv
  rcases hv with rfl | rfl | rfl | rfl | rfl | rfl | rfl | rfl | rfl | rfl <;> rfl
/-- what is asked of the sorting -/
def SortsTo (w wr : World) (v : Value) (l : List Cl) (w' : World) : Prop := ∃ l' : List Cl, l'.Perm l ∧ Rise (l'.map Cl.iv) ∧ w'.ownsRow w.heap.size 51 10 v l.length (encs l') ∧ Below w.heap.size wr w'
set_option maxRecDepth 20000 in
set_option maxHeartbeats 8000000 in
theorem closeA_walk (a : Option Addr) (n c : Nat) (S : Nat → Sp) (w : World) (h : SRow w a n c S) (hn : n ≤ 1000000) (hM : ∀ i, i < n → mayI (S i).nl (S i).vl = true ∧ mayI (S i).nh (S i).vh = true)
    (T : Hid (∀ (wr : World) (v : Value) (l : List Cl), w.heap.size ≤ wr.heap.size → l.length ≤ n → wr.ownsRow w.heap.size 51 10 v l.length (encs l) → Calls Tryz.prog 55 #[v, .func (.func 56) #[] #[]] wr fun e w' => e = .returned (.tuple #[]) ∧ SortsTo w wr v l w')) :
    Calls Tryz.prog 25 #[.slice a n c] w fun e w' => ∃ v l, e = .returned v ∧ (∃ l0 : List Cl, l0.map Cl.iv = ivs S n ∧ l.Perm l0) ∧ Rise (l.map Cl.iv) ∧ w'.ownsRow w.heap.size 51 10 v l.length (encs l) ∧ Below w.heap.size w w' := by
  have H := Lib.hid h
  have HM := Lib.hid hM
  have hl := h.l
  have hlc := h.lc
  clear hM h
  simp only [maxLen] at hlc
  obtain ⟨i0, hi, hz0, hz1, hz2⟩ := info_parts infoC
  go_enter Tryz.func25, Tryz.ntmps25
  repeat any_goals (first | (go_at_call 54; with_reducible refine (Ends_any _).mono ?_; rintro e W1 ⟨rfl, hB1⟩) | go_skip | go_guarded | go_step | go_upon | (dsimp only []))
  go_loopw [5, 15] (fun v i wr => ∃ k : Nat, k ≤ n ∧ i = .int .i64 k ∧ CloseI w wr W1.heap.size v (ivs S k)) (fun _ i _ => n - (intOf i).toNat)
  case atStart =>
    exact ⟨0, Nat.zero_le _, rfl, ⟨⟨[], rfl, World.ownsRow_nil _ _ _ _⟩, ⟨by simp [go_sem], by simp [go_sem]⟩, by (repeat first | with_reducible exact Below.refl _ _ | with_reducible assumption | with_reducible refine Below.drew ?_ | with_reducible refine below_alloc ?_ _ | ((with_reducible refine Below.setCell ?_ ?_ _); rotate_left; (focus (first | with_reducible exact Nat.le_refl _ | (simp; done) | (simp; omega) | omega))) | (with_reducible refine below_trans ?_ (by assumption))), hB1.size, by simp⟩⟩
  case round =>
    obtain ⟨k, hk, rfl, I⟩ := hrel
    have IH := Lib.hid I
    clear I
    by_cases hkn : k < n
    · obtain ⟨b, off, hl', hh', nl, vl, nh, vh, rfl, hb, hs, hc, hvl, hvh⟩ := sp_lit H.out hkn IH.out.b
      have hMk := HM.out k hkn
      rw [hs] at hMk
      obtain ⟨m1, m2⟩ := hMk
      have m1 : mayI nl vl = true := m1
      have m2 : mayI nh vh = true := m2
      have hS := Lib.hid hs
      obtain ⟨l, hl0, hown⟩ := IH.out.o
      have hO := Lib.hid hown
      have hL := Lib.hid hl0
      have hlen : l.length ≤ k := by
        have e : l.length = (ivs S k).length := by rw [← hl0, List.length_map]
        rw [e]; exact ivs_le S k
      have bd1 : l.length + 1 ≤ maxLen := by simp only [maxLen]; omega
      have bd2 : (l.length + 1) * 80 ≤ 140737488355328 := by omega
      have BD := Lib.hid (And.intro bd1 bd2)
      have hE := Lib.hid IH.out.l
      obtain ⟨c0, c1, c2, c3, c4, c5, c6, c7, c8, c9, c10, c11⟩ := hc.all
      obtain ⟨e0, e1, e2, e3, e4⟩ := IH.out.e.a
      obtain ⟨g0, g1, g2, g3, g4⟩ := IH.out.e.b
      have x1 : W1.heap.size < wr.heap.size := by have := hE.out.2; omega
      have x2 : W1.heap.size + 1 < wr.heap.size := hE.out.2
      have i1 : (k : Int) < (n : Int) := by omega
      have i2 : (0 : Int) ≤ (k : Int) := by omega
      have i5 : (k : Int).toNat = k := rfl
      clear hs hc hown hl0 bd1 bd2
      cases hl' with
      | true =>
        cases hh' with
        | true =>
          obtain ⟨z, hz⟩ : ∃ z, z = cmpI nl vl nh vh := ⟨_, rfl⟩
          have C := Lib.hid fun wx => Cmp_any nl vl hvl nh vh hvh wx
          rw [← hz] at C
          have hle : z ≤ 0 ↔ zI nl vl ≤ zI nh vh := by rw [hz]; exact cmpI_le m1 m2
          have hZ := Lib.hid hle
          have MM := Lib.hid (And.intro (show mayI nl vl = true from m1) (show mayI nh vh = true from m2))
          clear hz hle
          by_cases cz : z ≤ 0
          · repeat any_goals (first | (go_at_call 27; with_reducible refine (C.out _).mono ?_; rintro e w1 ⟨rfl, hb1⟩; have d0 : w1.cell? ⟨wr.heap.size + 1, 0, none⟩ = some (.bool nl) := keep_cell hb1 (by simp [go_sem]); have d1 : w1.cell? ⟨wr.heap.size + 1, 1, none⟩ = some (.int .u64 (lm vl 0 : Nat)) := keep_cell hb1 (by simp [go_sem]); have d2 : w1.cell? ⟨wr.heap.size + 1, 2, none⟩ = some (.int .u64 (lm vl 1 : Nat)) := keep_cell hb1 (by simp [go_sem]); have d3 : w1.cell? ⟨wr.heap.size + 1, 3, none⟩ = some (.int .u64 (lm vl 2 : Nat)) := keep_cell hb1 (by simp [go_sem]); have d4 : w1.cell? ⟨wr.heap.size + 1, 4, none⟩ = some (.int .u64 (lm vl 3 : Nat)) := keep_cell hb1 (by simp [go_sem]); have d5 : w1.cell? ⟨wr.heap.size + 1, 5, none⟩ = some (.bool nh) := keep_cell hb1 (by simp [go_sem]); have d6 : w1.cell? ⟨wr.heap.size + 1, 6, none⟩ = some (.int .u64 (lm vh 0 : Nat)) := keep_cell hb1 (by simp [go_sem]); have d7 : w1.cell? ⟨wr.heap.size + 1, 7, none⟩ = some (.int .u64 (lm vh 1 : Nat)) := keep_cell hb1 (by simp [go_sem]); have d8 : w1.cell? ⟨wr.heap.size + 1, 8, none⟩ = some (.int .u64 (lm vh 2 : Nat)) := keep_cell hb1 (by simp [go_sem]); have d9 : w1.cell? ⟨wr.heap.size + 1, 9, none⟩ = some (.int .u64 (lm vh 3 : Nat)) := keep_cell hb1 (by simp [go_sem]); have hw1 := Lib.hid (show Below wr.heap.size wr w1 from below_trans (by (repeat first | with_reducible exact Below.refl _ _ | with_reducible assumption | with_reducible refine Below.drew ?_ | with_reducible refine below_alloc ?_ _ | ((with_reducible refine Below.setCell ?_ ?_ _); rotate_left; (focus (first | with_reducible exact Nat.le_refl _ | (simp; done) | (simp; omega) | omega))) | (with_reducible refine below_trans ?_ (by assumption)))) hb1)) | (at_builtin; refine wpList_append_own _ rfl (.tmp 40) (.tmp 42) 49 rfl (W1.heap.size + 1 + 1) 51 i0 (.agg #[.bool false, .int .u64 0, .int .u64 0, .int .u64 0, .int .u64 0, .bool false, .int .u64 0, .int .u64 0, .int .u64 0, .int .u64 0]) 10 80 Tryz.underlying49 hi hz0 hz1 hz2 rfl (by decide) _ _ _ rfl ((own_below hO.out hw1.out).alloc _) ⟨w1.heap.size, 0, none⟩ 1 1 [.bool nl, .int .u64 (lm vl 0 : Nat), .int .u64 (lm vl 1 : Nat), .int .u64 (lm vl 2 : Nat), .int .u64 (lm vl 3 : Nat), .bool nh, .int .u64 (lm vh 0 : Nat), .int .u64 (lm vh 1 : Nat), .int .u64 (lm vh 2 : Nat), .int .u64 (lm vh 3 : Nat)] rfl rfl ten_cells ten_one BD.out.1 BD.out.2 (by have := hE.out.2; have := hw1.out.size; simp; omega) ?_; intro v' w2 hown' hgrow _) | go_skip | go_guarded | go_step | go_upon | (dsimp only []))
            go_roundw
            case rel => exact ⟨k + 1, by omega, rfl, closeI_up hS.out hZ.out cz (by first | rfl | simp [Sp.iv]) (IH.out.drop hw1.out) hL.out (own_below hO.out hw1.out) (mkC_enc hvl hvh MM.out.1 MM.out.2) hown' hgrow⟩
            case measure => simp [intOf]; omega
          · repeat any_goals (first | (go_at_call 27; with_reducible refine (C.out _).mono ?_; rintro e w1 ⟨rfl, hb1⟩; have d0 : w1.cell? ⟨wr.heap.size + 1, 0, none⟩ = some (.bool nl) := keep_cell hb1 (by simp [go_sem]); have d1 : w1.cell? ⟨wr.heap.size + 1, 1, none⟩ = some (.int .u64 (lm vl 0 : Nat)) := keep_cell hb1 (by simp [go_sem]); have d2 : w1.cell? ⟨wr.heap.size + 1, 2, none⟩ = some (.int .u64 (lm vl 1 : Nat)) := keep_cell hb1 (by simp [go_sem]); have d3 : w1.cell? ⟨wr.heap.size + 1, 3, none⟩ = some (.int .u64 (lm vl 2 : Nat)) := keep_cell hb1 (by simp [go_sem]); have d4 : w1.cell? ⟨wr.heap.size + 1, 4, none⟩ = some (.int .u64 (lm vl 3 : Nat)) := keep_cell hb1 (by simp [go_sem]); have d5 : w1.cell? ⟨wr.heap.size + 1, 5, none⟩ = some (.bool nh) := keep_cell hb1 (by simp [go_sem]); have d6 : w1.cell? ⟨wr.heap.size + 1, 6, none⟩ = some (.int .u64 (lm vh 0 : Nat)) := keep_cell hb1 (by simp [go_sem]); have d7 : w1.cell? ⟨wr.heap.size + 1, 7, none⟩ = some (.int .u64 (lm vh 1 : Nat)) := keep_cell hb1 (by simp [go_sem]); have d8 : w1.cell? ⟨wr.heap.size + 1, 8, none⟩ = some (.int .u64 (lm vh 2 : Nat)) := keep_cell hb1 (by simp [go_sem]); have d9 : w1.cell? ⟨wr.heap.size + 1, 9, none⟩ = some (.int .u64 (lm vh 3 : Nat)) := keep_cell hb1 (by simp [go_sem]); have hw1 := Lib.hid (show Below wr.heap.size wr w1 from below_trans (by (repeat first | with_reducible exact Below.refl _ _ | with_reducible assumption | with_reducible refine Below.drew ?_ | with_reducible refine below_alloc ?_ _ | ((with_reducible refine Below.setCell ?_ ?_ _); rotate_left; (focus (first | with_reducible exact Nat.le_refl _ | (simp; done) | (simp; omega) | omega))) | (with_reducible refine below_trans ?_ (by assumption)))) hb1)) | go_skip | go_guarded | go_step | go_upon | (dsimp only []))
            go_roundw
            case rel => exact ⟨k + 1, by omega, rfl, closeI_no hS.out hZ.out cz (by first | rfl | simp [Sp.iv]) (IH.out.drop hw1.out)⟩
            case measure => simp [intOf]; omega
        | false =>
          obtain ⟨z, hz⟩ : ∃ z, z = cmpI nl vl false topN := ⟨_, rfl⟩
          have C := Lib.hid fun wx => Cmp_any nl vl hvl false topN topN_lt wx
          rw [← hz] at C
          have hle : z ≤ 0 ↔ zI nl vl ≤ zI false topN := by rw [hz]; exact cmpI_le m1 may_topF
          have hZ := Lib.hid hle
          have MM := Lib.hid (And.intro (show mayI nl vl = true from m1) (show mayI false topN = true from may_topF))
          clear hz hle
          by_cases cz : z ≤ 0
          · repeat any_goals (first | (go_at_call 27; with_reducible refine (C.out _).mono ?_; rintro e w1 ⟨rfl, hb1⟩; have d0 : w1.cell? ⟨wr.heap.size + 1, 0, none⟩ = some (.bool nl) := keep_cell hb1 (by simp [go_sem]); have d1 : w1.cell? ⟨wr.heap.size + 1, 1, none⟩ = some (.int .u64 (lm vl 0 : Nat)) := keep_cell hb1 (by simp [go_sem]); have d2 : w1.cell? ⟨wr.heap.size + 1, 2, none⟩ = some (.int .u64 (lm vl 1 : Nat)) := keep_cell hb1 (by simp [go_sem]); have d3 : w1.cell? ⟨wr.heap.size + 1, 3, none⟩ = some (.int .u64 (lm vl 2 : Nat)) := keep_cell hb1 (by simp [go_sem]); have d4 : w1.cell? ⟨wr.heap.size + 1, 4, none⟩ = some (.int .u64 (lm vl 3 : Nat)) := keep_cell hb1 (by simp [go_sem]); have d5 : w1.cell? ⟨wr.heap.size + 1, 5, none⟩ = some (.bool false) := keep_cell hb1 (by simp [go_sem]); have d6 : w1.cell? ⟨wr.heap.size + 1, 6, none⟩ = some (.int .u64 (lm topN 0 : Nat)) := keep_cell hb1 (by simp [go_sem]); have d7 : w1.cell? ⟨wr.heap.size + 1, 7, none⟩ = some (.int .u64 (lm topN 1 : Nat)) := keep_cell hb1 (by simp [go_sem]); have d8 : w1.cell? ⟨wr.heap.size + 1, 8, none⟩ = some (.int .u64 (lm topN 2 : Nat)) := keep_cell hb1 (by simp [go_sem]); have d9 : w1.cell? ⟨wr.heap.size + 1, 9, none⟩ = some (.int .u64 (lm topN 3 : Nat)) := keep_cell hb1 (by simp [go_sem]); have hw1 := Lib.hid (show Below wr.heap.size wr w1 from below_trans (by (repeat first | with_reducible exact Below.refl _ _ | with_reducible assumption | with_reducible refine Below.drew ?_ | with_reducible refine below_alloc ?_ _ | ((with_reducible refine Below.setCell ?_ ?_ _); rotate_left; (focus (first | with_reducible exact Nat.le_refl _ | (simp; done) | (simp; omega) | omega))) | (with_reducible refine below_trans ?_ (by assumption)))) hb1)) | (at_builtin; refine wpList_append_own _ rfl (.tmp 40) (.tmp 42) 49 rfl (W1.heap.size + 1 + 1) 51 i0 (.agg #[.bool false, .int .u64 0, .int .u64 0, .int .u64 0, .int .u64 0, .bool false, .int .u64 0, .int .u64 0, .int .u64 0, .int .u64 0]) 10 80 Tryz.underlying49 hi hz0 hz1 hz2 rfl (by decide) _ _ _ rfl ((own_below hO.out hw1.out).alloc _) ⟨w1.heap.size, 0, none⟩ 1 1 [.bool nl, .int .u64 (lm vl 0 : Nat), .int .u64 (lm vl 1 : Nat), .int .u64 (lm vl 2 : Nat), .int .u64 (lm vl 3 : Nat), .bool false, .int .u64 (lm topN 0 : Nat), .int .u64 (lm topN 1 : Nat), .int .u64 (lm topN 2 : Nat), .int .u64 (lm topN 3 : Nat)] rfl rfl ten_cells ten_one BD.out.1 BD.out.2 (by have := hE.out.2; have := hw1.out.size; simp; omega) ?_; intro v' w2 hown' hgrow _) | go_skip | go_guarded | go_step | go_upon | (dsimp only []))
            go_roundw
            case rel => exact ⟨k + 1, by omega, rfl, closeI_up hS.out hZ.out cz (by first | rfl | simp [Sp.iv]) (IH.out.drop hw1.out) hL.out (own_below hO.out hw1.out) (mkC_enc hvl topN_lt MM.out.1 MM.out.2) hown' hgrow⟩
            case measure => simp [intOf]; omega
          · repeat any_goals (first | (go_at_call 27; with_reducible refine (C.out _).mono ?_; rintro e w1 ⟨rfl, hb1⟩; have d0 : w1.cell? ⟨wr.heap.size + 1, 0, none⟩ = some (.bool nl) := keep_cell hb1 (by simp [go_sem]); have d1 : w1.cell? ⟨wr.heap.size + 1, 1, none⟩ = some (.int .u64 (lm vl 0 : Nat)) := keep_cell hb1 (by simp [go_sem]); have d2 : w1.cell? ⟨wr.heap.size + 1, 2, none⟩ = some (.int .u64 (lm vl 1 : Nat)) := keep_cell hb1 (by simp [go_sem]); have d3 : w1.cell? ⟨wr.heap.size + 1, 3, none⟩ = some (.int .u64 (lm vl 2 : Nat)) := keep_cell hb1 (by simp [go_sem]); have d4 : w1.cell? ⟨wr.heap.size + 1, 4, none⟩ = some (.int .u64 (lm vl 3 : Nat)) := keep_cell hb1 (by simp [go_sem]); have d5 : w1.cell? ⟨wr.heap.size + 1, 5, none⟩ = some (.bool false) := keep_cell hb1 (by simp [go_sem]); have d6 : w1.cell? ⟨wr.heap.size + 1, 6, none⟩ = some (.int .u64 (lm topN 0 : Nat)) := keep_cell hb1 (by simp [go_sem]); have d7 : w1.cell? ⟨wr.heap.size + 1, 7, none⟩ = some (.int .u64 (lm topN 1 : Nat)) := keep_cell hb1 (by simp [go_sem]); have d8 : w1.cell? ⟨wr.heap.size + 1, 8, none⟩ = some (.int .u64 (lm topN 2 : Nat)) := keep_cell hb1 (by simp [go_sem]); have d9 : w1.cell? ⟨wr.heap.size + 1, 9, none⟩ = some (.int .u64 (lm topN 3 : Nat)) := keep_cell hb1 (by simp [go_sem]); have hw1 := Lib.hid (show Below wr.heap.size wr w1 from below_trans (by (repeat first | with_reducible exact Below.refl _ _ | with_reducible assumption | with_reducible refine Below.drew ?_ | with_reducible refine below_alloc ?_ _ | ((with_reducible refine Below.setCell ?_ ?_ _); rotate_left; (focus (first | with_reducible exact Nat.le_refl _ | (simp; done) | (simp; omega) | omega))) | (with_reducible refine below_trans ?_ (by assumption)))) hb1)) | go_skip | go_guarded | go_step | go_upon | (dsimp only []))
            go_roundw
            case rel => exact ⟨k + 1, by omega, rfl, closeI_no hS.out hZ.out cz (by first | rfl | simp [Sp.iv]) (IH.out.drop hw1.out)⟩
            case measure => simp [intOf]; omega
      | false =>
        cases hh' with
        | true =>
          obtain ⟨z, hz⟩ : ∃ z, z = cmpI true topN nh vh := ⟨_, rfl⟩
          have C := Lib.hid fun wx => Cmp_any true topN topN_lt nh vh hvh wx
          rw [← hz] at C
          have hle : z ≤ 0 ↔ zI true topN ≤ zI nh vh := by rw [hz]; exact cmpI_le may_topT m2
          have hZ := Lib.hid hle
          have MM := Lib.hid (And.intro (show mayI true topN = true from may_topT) (show mayI nh vh = true from m2))
          clear hz hle
          by_cases cz : z ≤ 0
          · repeat any_goals (first | (go_at_call 27; with_reducible refine (C.out _).mono ?_; rintro e w1 ⟨rfl, hb1⟩; have d0 : w1.cell? ⟨wr.heap.size + 1, 0, none⟩ = some (.bool true) := keep_cell hb1 (by simp [go_sem]); have d1 : w1.cell? ⟨wr.heap.size + 1, 1, none⟩ = some (.int .u64 (lm topN 0 : Nat)) := keep_cell hb1 (by simp [go_sem]); have d2 : w1.cell? ⟨wr.heap.size + 1, 2, none⟩ = some (.int .u64 (lm topN 1 : Nat)) := keep_cell hb1 (by simp [go_sem]); have d3 : w1.cell? ⟨wr.heap.size + 1, 3, none⟩ = some (.int .u64 (lm topN 2 : Nat)) := keep_cell hb1 (by simp [go_sem]); have d4 : w1.cell? ⟨wr.heap.size + 1, 4, none⟩ = some (.int .u64 (lm topN 3 : Nat)) := keep_cell hb1 (by simp [go_sem]); have d5 : w1.cell? ⟨wr.heap.size + 1, 5, none⟩ = some (.bool nh) := keep_cell hb1 (by simp [go_sem]); have d6 : w1.cell? ⟨wr.heap.size + 1, 6, none⟩ = some (.int .u64 (lm vh 0 : Nat)) := keep_cell hb1 (by simp [go_sem]); have d7 : w1.cell? ⟨wr.heap.size + 1, 7, none⟩ = some (.int .u64 (lm vh 1 : Nat)) := keep_cell hb1 (by simp [go_sem]); have d8 : w1.cell? ⟨wr.heap.size + 1, 8, none⟩ = some (.int .u64 (lm vh 2 : Nat)) := keep_cell hb1 (by simp [go_sem]); have d9 : w1.cell? ⟨wr.heap.size + 1, 9, none⟩ = some (.int .u64 (lm vh 3 : Nat)) := keep_cell hb1 (by simp [go_sem]); have hw1 := Lib.hid (show Below wr.heap.size wr w1 from below_trans (by (repeat first | with_reducible exact Below.refl _ _ | with_reducible assumption | with_reducible refine Below.drew ?_ | with_reducible refine below_alloc ?_ _ | ((with_reducible refine Below.setCell ?_ ?_ _); rotate_left; (focus (first | with_reducible exact Nat.le_refl _ | (simp; done) | (simp; omega) | omega))) | (with_reducible refine below_trans ?_ (by assumption)))) hb1)) | (at_builtin; refine wpList_append_own _ rfl (.tmp 40) (.tmp 42) 49 rfl (W1.heap.size + 1 + 1) 51 i0 (.agg #[.bool false, .int .u64 0, .int .u64 0, .int .u64 0, .int .u64 0, .bool false, .int .u64 0, .int .u64 0, .int .u64 0, .int .u64 0]) 10 80 Tryz.underlying49 hi hz0 hz1 hz2 rfl (by decide) _ _ _ rfl ((own_below hO.out hw1.out).alloc _) ⟨w1.heap.size, 0, none⟩ 1 1 [.bool true, .int .u64 (lm topN 0 : Nat), .int .u64 (lm topN 1 : Nat), .int .u64 (lm topN 2 : Nat), .int .u64 (lm topN 3 : Nat), .bool nh, .int .u64 (lm vh 0 : Nat), .int .u64 (lm vh 1 : Nat), .int .u64 (lm vh 2 : Nat), .int .u64 (lm vh 3 : Nat)] rfl rfl ten_cells ten_one BD.out.1 BD.out.2 (by have := hE.out.2; have := hw1.out.size; simp; omega) ?_; intro v' w2 hown' hgrow _) | go_skip | go_guarded | go_step | go_upon | (dsimp only []))
            go_roundw
            case rel => exact ⟨k + 1, by omega, rfl, closeI_up hS.out hZ.out cz (by first | rfl | simp [Sp.iv]) (IH.out.drop hw1.out) hL.out (own_below hO.out hw1.out) (mkC_enc topN_lt hvh MM.out.1 MM.out.2) hown' hgrow⟩
            case measure => simp [intOf]; omega
          · repeat any_goals (first | (go_at_call 27; with_reducible refine (C.out _).mono ?_; rintro e w1 ⟨rfl, hb1⟩; have d0 : w1.cell? ⟨wr.heap.size + 1, 0, none⟩ = some (.bool true) := keep_cell hb1 (by simp [go_sem]); have d1 : w1.cell? ⟨wr.heap.size + 1, 1, none⟩ = some (.int .u64 (lm topN 0 : Nat)) := keep_cell hb1 (by simp [go_sem]); have d2 : w1.cell? ⟨wr.heap.size + 1, 2, none⟩ = some (.int .u64 (lm topN 1 : Nat)) := keep_cell hb1 (by simp [go_sem]); have d3 : w1.cell? ⟨wr.heap.size + 1, 3, none⟩ = some (.int .u64 (lm topN 2 : Nat)) := keep_cell hb1 (by simp [go_sem]); have d4 : w1.cell? ⟨wr.heap.size + 1, 4, none⟩ = some (.int .u64 (lm topN 3 : Nat)) := keep_cell hb1 (by simp [go_sem]); have d5 : w1.cell? ⟨wr.heap.size + 1, 5, none⟩ = some (.bool nh) := keep_cell hb1 (by simp [go_sem]); have d6 : w1.cell? ⟨wr.heap.size + 1, 6, none⟩ = some (.int .u64 (lm vh 0 : Nat)) := keep_cell hb1 (by simp [go_sem]); have d7 : w1.cell? ⟨wr.heap.size + 1, 7, none⟩ = some (.int .u64 (lm vh 1 : Nat)) := keep_cell hb1 (by simp [go_sem]); have d8 : w1.cell? ⟨wr.heap.size + 1, 8, none⟩ = some (.int .u64 (lm vh 2 : Nat)) := keep_cell hb1 (by simp [go_sem]); have d9 : w1.cell? ⟨wr.heap.size + 1, 9, none⟩ = some (.int .u64 (lm vh 3 : Nat)) := keep_cell hb1 (by simp [go_sem]); have hw1 := Lib.hid (show Below wr.heap.size wr w1 from below_trans (by (repeat first | with_reducible exact Below.refl _ _ | with_reducible assumption | with_reducible refine Below.drew ?_ | with_reducible refine below_alloc ?_ _ | ((with_reducible refine Below.setCell ?_ ?_ _); rotate_left; (focus (first | with_reducible exact Nat.le_refl _ | (simp; done) | (simp; omega) | omega))) | (with_reducible refine below_trans ?_ (by assumption)))) hb1)) | go_skip | go_guarded | go_step | go_upon | (dsimp only []))
            go_roundw
            case rel => exact ⟨k + 1, by omega, rfl, closeI_no hS.out hZ.out cz (by first | rfl | simp [Sp.iv]) (IH.out.drop hw1.out)⟩
            case measure => simp [intOf]; omega
        | false =>
          obtain ⟨z, hz⟩ : ∃ z, z = cmpI true topN false topN := ⟨_, rfl⟩
          have C := Lib.hid fun wx => Cmp_any true topN topN_lt false topN topN_lt wx
          rw [← hz] at C
          have hle : z ≤ 0 ↔ zI true topN ≤ zI false topN := by rw [hz]; exact cmpI_le may_topT may_topF
          have hZ := Lib.hid hle
          have MM := Lib.hid (And.intro (show mayI true topN = true from may_topT) (show mayI false topN = true from may_topF))
          clear hz hle
          by_cases cz : z ≤ 0
          · repeat any_goals (first | (go_at_call 27; with_reducible refine (C.out _).mono ?_; rintro e w1 ⟨rfl, hb1⟩; have d0 : w1.cell? ⟨wr.heap.size + 1, 0, none⟩ = some (.bool true) := keep_cell hb1 (by simp [go_sem]); have d1 : w1.cell? ⟨wr.heap.size + 1, 1, none⟩ = some (.int .u64 (lm topN 0 : Nat)) := keep_cell hb1 (by simp [go_sem]); have d2 : w1.cell? ⟨wr.heap.size + 1, 2, none⟩ = some (.int .u64 (lm topN 1 : Nat)) := keep_cell hb1 (by simp [go_sem]); have d3 : w1.cell? ⟨wr.heap.size + 1, 3, none⟩ = some (.int .u64 (lm topN 2 : Nat)) := keep_cell hb1 (by simp [go_sem]); have d4 : w1.cell? ⟨wr.heap.size + 1, 4, none⟩ = some (.int .u64 (lm topN 3 : Nat)) := keep_cell hb1 (by simp [go_sem]); have d5 : w1.cell? ⟨wr.heap.size + 1, 5, none⟩ = some (.bool false) := keep_cell hb1 (by simp [go_sem]); have d6 : w1.cell? ⟨wr.heap.size + 1, 6, none⟩ = some (.int .u64 (lm topN 0 : Nat)) := keep_cell hb1 (by simp [go_sem]); have d7 : w1.cell? ⟨wr.heap.size + 1, 7, none⟩ = some (.int .u64 (lm topN 1 : Nat)) := keep_cell hb1 (by simp [go_sem]); have d8 : w1.cell? ⟨wr.heap.size + 1, 8, none⟩ = some (.int .u64 (lm topN 2 : Nat)) := keep_cell hb1 (by simp [go_sem]); have d9 : w1.cell? ⟨wr.heap.size + 1, 9, none⟩ = some (.int .u64 (lm topN 3 : Nat)) := keep_cell hb1 (by simp [go_sem]); have hw1 := Lib.hid (show Below wr.heap.size wr w1 from below_trans (by (repeat first | with_reducible exact Below.refl _ _ | with_reducible assumption | with_reducible refine Below.drew ?_ | with_reducible refine below_alloc ?_ _ | ((with_reducible refine Below.setCell ?_ ?_ _); rotate_left; (focus (first | with_reducible exact Nat.le_refl _ | (simp; done) | (simp; omega) | omega))) | (with_reducible refine below_trans ?_ (by assumption)))) hb1)) | (at_builtin; refine wpList_append_own _ rfl (.tmp 40) (.tmp 42) 49 rfl (W1.heap.size + 1 + 1) 51 i0 (.agg #[.bool false, .int .u64 0, .int .u64 0, .int .u64 0, .int .u64 0, .bool false, .int .u64 0, .int .u64 0, .int .u64 0, .int .u64 0]) 10 80 Tryz.underlying49 hi hz0 hz1 hz2 rfl (by decide) _ _ _ rfl ((own_below hO.out hw1.out).alloc _) ⟨w1.heap.size, 0, none⟩ 1 1 [.bool true, .int .u64 (lm topN 0 : Nat), .int .u64 (lm topN 1 : Nat), .int .u64 (lm topN 2 : Nat), .int .u64 (lm topN 3 : Nat), .bool false, .int .u64 (lm topN 0 : Nat), .int .u64 (lm topN 1 : Nat), .int .u64 (lm topN 2 : Nat), .int .u64 (lm topN 3 : Nat)] rfl rfl ten_cells ten_one BD.out.1 BD.out.2 (by have := hE.out.2; have := hw1.out.size; simp; omega) ?_; intro v' w2 hown' hgrow _) | go_skip | go_guarded | go_step | go_upon | (dsimp only []))
            go_roundw
            case rel => exact ⟨k + 1, by omega, rfl, closeI_up hS.out hZ.out cz (by first | rfl | simp [Sp.iv]) (IH.out.drop hw1.out) hL.out (own_below hO.out hw1.out) (mkC_enc topN_lt topN_lt MM.out.1 MM.out.2) hown' hgrow⟩
            case measure => simp [intOf]; omega
          · repeat any_goals (first | (go_at_call 27; with_reducible refine (C.out _).mono ?_; rintro e w1 ⟨rfl, hb1⟩; have d0 : w1.cell? ⟨wr.heap.size + 1, 0, none⟩ = some (.bool true) := keep_cell hb1 (by simp [go_sem]); have d1 : w1.cell? ⟨wr.heap.size + 1, 1, none⟩ = some (.int .u64 (lm topN 0 : Nat)) := keep_cell hb1 (by simp [go_sem]); have d2 : w1.cell? ⟨wr.heap.size + 1, 2, none⟩ = some (.int .u64 (lm topN 1 : Nat)) := keep_cell hb1 (by simp [go_sem]); have d3 : w1.cell? ⟨wr.heap.size + 1, 3, none⟩ = some (.int .u64 (lm topN 2 : Nat)) := keep_cell hb1 (by simp [go_sem]); have d4 : w1.cell? ⟨wr.heap.size + 1, 4, none⟩ = some (.int .u64 (lm topN 3 : Nat)) := keep_cell hb1 (by simp [go_sem]); have d5 : w1.cell? ⟨wr.heap.size + 1, 5, none⟩ = some (.bool false) := keep_cell hb1 (by simp [go_sem]); have d6 : w1.cell? ⟨wr.heap.size + 1, 6, none⟩ = some (.int .u64 (lm topN 0 : Nat)) := keep_cell hb1 (by simp [go_sem]); have d7 : w1.cell? ⟨wr.heap.size + 1, 7, none⟩ = some (.int .u64 (lm topN 1 : Nat)) := keep_cell hb1 (by simp [go_sem]); have d8 : w1.cell? ⟨wr.heap.size + 1, 8, none⟩ = some (.int .u64 (lm topN 2 : Nat)) := keep_cell hb1 (by simp [go_sem]); have d9 : w1.cell? ⟨wr.heap.size + 1, 9, none⟩ = some (.int .u64 (lm topN 3 : Nat)) := keep_cell hb1 (by simp [go_sem]); have hw1 := Lib.hid (show Below wr.heap.size wr w1 from below_trans (by (repeat first | with_reducible exact Below.refl _ _ | with_reducible assumption | with_reducible refine Below.drew ?_ | with_reducible refine below_alloc ?_ _ | ((with_reducible refine Below.setCell ?_ ?_ _); rotate_left; (focus (first | with_reducible exact Nat.le_refl _ | (simp; done) | (simp; omega) | omega))) | (with_reducible refine below_trans ?_ (by assumption)))) hb1)) | go_skip | go_guarded | go_step | go_upon | (dsimp only []))
            go_roundw
            case rel => exact ⟨k + 1, by omega, rfl, closeI_no hS.out hZ.out cz (by first | rfl | simp [Sp.iv]) (IH.out.drop hw1.out)⟩
            case measure => simp [intOf]; omega
    · have hk' : k = n := by omega
      subst hk'
      have i1 : ¬ (k : Int) < (k : Int) := by omega
      obtain ⟨l, hl0, hown⟩ := IH.out.o
      have hlen : l.length ≤ k := by
        have e : l.length = (ivs S k).length := by rw [← hl0, List.length_map]
        rw [e]; exact ivs_le S k
      have hE := IH.out.l
      have T1 := Lib.hid (T.out wr _ l (by omega) hlen (hown.mono (by omega)))
      have hW := IH.out.b
      repeat any_goals (first | go_skip | go_guarded | go_step | go_upon | (simp only []; done))
      refine T1.out.mono ?_
      rintro e w3 ⟨rfl, l', hp, hr, ho, hb⟩
      dsimp only []
      repeat any_goals (first | go_skip | go_guarded | go_step | go_upon | (simp only []; done))
      exact bodyPost_ret (v := u5) (by simp [results, Tryz.results25, go_sem]) rfl ⟨_, l', rfl, ⟨l, hl0, hp⟩, hr, by rw [hp.length_eq]; exact ho, hW.trans hb⟩
end Go.Proofs.YtekeedjhaakbhaaGreatDoor
