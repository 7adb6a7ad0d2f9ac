/- The law SpanHas. -/
import Derived.Test.YtekeedjhaakbhaaDoorRows9
import Derived.Test.YtekeedjhaakbhaaDoorRefH
import Derived.Deep.DeepCutAuto
namespace Go.Proofs.YtekeedjhaakbhaaDoor
open Go Go.RowKit
def cellsI (p : Bool × Nat) : List Value := [.bool p.1, .int .u64 (lm p.2 0 : Nat), .int .u64 (lm p.2 1 : Nat), .int .u64 (lm p.2 2 : Nat), .int .u64 (lm p.2 3 : Nat)]
def encI (l : List (Bool × Nat)) : List Value := l.flatMap cellsI
theorem encI_len (l : List (Bool × Nat)) : (encI l).length = l.length * 5 := by
  induction l with
  | nil => rfl
  | cons c t ih =>
    show (cellsI c ++ encI t).length = _
    rw [List.length_append, ih, List.length_cons, show (cellsI c).length = 5 from rfl]
    omega
theorem encI_app (l m : List (Bool × Nat)) : encI (l ++ m) = encI l ++ encI m := by unfold encI; rw [List.flatMap_append]
theorem encI_get : ∀ (l : List (Bool × Nat)) (i j : Nat) (h : i < l.length), j < 5 → (encI l)[i * 5 + j]? = (cellsI l[i])[j]? := by
  intro l
  induction l with
  | nil => intro i j hi; exact absurd hi (Nat.not_lt_zero _)
  | cons c t ih =>
    intro i j hi hj
    show (cellsI c ++ encI t)[i * 5 + j]? = _
    have hc : (cellsI c).length = 5 := rfl
    cases i with
    | zero =>
      rw [Nat.zero_mul, Nat.zero_add, List.getElem?_append_left (by omega)]
      rfl
    | succ i =>
      rw [List.getElem?_append_right (by omega), hc, show (i + 1) * 5 + j - 5 = i * 5 + j by omega]
      exact ih i j (by simpa using hi) hj
/-- five cells of a block, from an offset on -/
structure R5 (w : World) (B o : Nat) (n : Bool) (V : Nat) : Prop where
  all : w.cell? ⟨B, o, none⟩ = some (.bool n) ∧ w.cell? ⟨B, o + 1, none⟩ = some (.int .u64 (lm V 0 : Nat)) ∧ w.cell? ⟨B, o + 2, none⟩ = some (.int .u64 (lm V 1 : Nat)) ∧ w.cell? ⟨B, o + 3, none⟩ = some (.int .u64 (lm V 2 : Nat)) ∧ w.cell? ⟨B, o + 4, none⟩ = some (.int .u64 (lm V 3 : Nat))
theorem il_lit {w : World} {B T i n : Nat} {v : Value} {l : List (Bool × Nat)} (h : w.ownsRow B T 5 v n (encI l)) (hn : n = l.length) (hi : i < n) :
    ∃ (g cap : Nat) (xn : Bool) (xv : Nat), v = .slice (some ⟨g, 0, none⟩) n cap ∧ g < w.heap.size ∧ (xn, xv) ∈ l ∧ R5 w g (i * 5) xn xv := by
  subst hn
  rcases h.2 with ⟨-, h0⟩ | ⟨g, cap, cur, rfl, hB, hg, hc, hm, -⟩
  · omega
  · have hw : ∀ j, j < 5 → w.cell? ⟨g, i * 5 + j, none⟩ = (cellsI l[i])[j]? := fun j hj => by
      rw [h.cellAt (i * 5 + j) (by omega)]
      exact encI_get l i j hi hj
    exact ⟨g, cap, l[i].1, l[i].2, rfl, (Array.getElem?_eq_some_iff.1 hg).1, List.getElem_mem hi, ⟨⟨hw 0 (by omega), hw 1 (by omega), hw 2 (by omega), hw 3 (by omega), hw 4 (by omega)⟩⟩⟩
theorem infoI : (Tryd.prog.info? 31).map (fun i => (i.zero, i.size, i.bytes)) = some (some (.agg #[.bool false, .int .u64 0, .int .u64 0, .int .u64 0, .int .u64 0]), 5, 40) := by kernel_rfl
theorem five_cells {w1 : World} {t : TypeId} {B : Nat} {v0 v1 v2 v3 v4 : Value} (hB : B = w1.heap.size) : ∀ (j : Nat) (u : Value), [v0, v1, v2, v3, v4][j]? = some u → (w1.alloc (.cells #[v0, v1, v2, v3, v4] t)).cell? ((⟨B, 0, none⟩ : Addr).add j) = some u := by
  subst hB
  intro j u hj
  match j, hj with
  | 0, hj => simp at hj; subst hj; simp [Addr.add, go_sem]
  | 1, hj => simp at hj; subst hj; simp [Addr.add, go_sem]
  | 2, hj => simp at hj; subst hj; simp [Addr.add, go_sem]
  | 3, hj => simp at hj; subst hj; simp [Addr.add, go_sem]
  | 4, hj => simp at hj; subst hj; simp [Addr.add, go_sem]
  | n + 5, hj => simp at hj
theorem five_one {a : Bool} {A : Nat} : ∀ u ∈ ([.bool a, .int .u64 (lm A 0 : Nat), .int .u64 (lm A 1 : Nat), .int .u64 (lm A 2 : Nat), .int .u64 (lm A 3 : Nat)] : List Value), u.oneCell' = true := by
  intro v hv
  simp only [List.mem_cons, List.not_mem_nil, or_false] at hv
  rcases hv with rfl | rfl | rfl | rfl | rfl <;> rfl
theorem zI_in {n : Bool} {V : Nat} (h : V < 2 ^ 256) : inR (zI n V) := inR_ab.2 (by rw [ab_zI]; exact h)
theorem InS_in {w : World} {a : Option Addr} {n c : Nat} {S : Nat → Sp} (h : SRow w a n c S) {z : Int} (hz : InS S n z) : inR z := by
  obtain ⟨i, hi, h1, h2⟩ := hz
  have ho := h.o i hi
  have e1 : inR (S i).iv.1 := by
    unfold Sp.iv
    simp only
    split
    · exact zI_in ho.1
    · exact zI_in topN_lt
  have e2 : inR (S i).iv.2 := by
    unfold Sp.iv
    simp only
    split
    · exact zI_in ho.2
    · exact zI_in topN_lt
  exact ⟨Int.le_trans e1.1 h1, Int.le_trans h2 e2.2⟩
/-- is a number in a set, as a Bool -/
noncomputable def hasB (S : Nat → Sp) (n : Nat) (an : Bool) (av : Nat) : Bool := @decide (mayR S n = true ∧ mayI an av = true ∧ InS S n (zI an av)) (Classical.propDecidable _)
theorem hasB_iff {S : Nat → Sp} {n : Nat} {an : Bool} {av : Nat} : hasB S n an av = true ↔ mayR S n = true ∧ mayI an av = true ∧ InS S n (zI an av) := by
  unfold hasB
  exact @decide_eq_true_iff _ (Classical.propDecidable _)
theorem hasB_of {S : Nat → Sp} {n : Nat} {an : Bool} {av : Nat} {r : Bool} (h : HasO S n an av r) : r = hasB S n an av := Bool.eq_iff_iff.2 (h.trans hasB_iff.symm)
theorem hasC {a : Option Addr} {n c : Nat} {S : Nat → Sp} {an : Bool} {av : Nat} (hv : av < 2 ^ 256) {w : World} (h : SRow w a n c S) : Calls Tryd.prog 16 #[.slice a n c, .agg #[.bool (an ), .int .u64 (lm ( av) 0 : Nat), .int .u64 (lm ( av) 1 : Nat), .int .u64 (lm ( av) 2 : Nat), .int .u64 (lm ( av) 3 : Nat)]] w fun e w' => e = .returned (.bool (hasB S n an av)) ∧ Below w.heap.size w w' :=
  (Has_any a n c S an av hv w h).mono fun _ _ ⟨_, he, hr, hb⟩ => ⟨by rw [he, hasB_of hr], hb⟩
theorem rhasC {a : Option Addr} {n c : Nat} {S : Nat → Sp} {an : Bool} {av : Nat} (hv : av < 2 ^ 256) {w : World} (h : SRow w a n c S) : Calls Tryd.prog 29 #[.slice a n c, .agg #[.bool (an ), .int .u64 (lm ( av) 0 : Nat), .int .u64 (lm ( av) 1 : Nat), .int .u64 (lm ( av) 2 : Nat), .int .u64 (lm ( av) 3 : Nat)]] w fun e w' => e = .returned (.bool (hasB S n an av)) ∧ Below w.heap.size w w' :=
  (RHas_any a n c S an av hv w h).mono fun _ _ ⟨_, he, hr, hb⟩ => ⟨by rw [he, hasB_of hr], hb⟩
theorem hasP {w : World} {a : Option Addr} {n c M : Nat} {S : Nat → Sp} {P : Int → Prop} (h : RowP w a n c S P M) {an : Bool} {av : Nat} (hm : mayI an av = true) : hasB S n an av = true ↔ P (zI an av) := by
  rw [hasB_iff, ← h.set]
  exact ⟨fun x => x.2.2, fun x => ⟨h.may, hm, x⟩⟩
theorem same_row {w : World} {a b : Option Addr} {n c m d M N : Nat} {S T : Nat → Sp} {P Q : Int → Prop} (h1 : RowP w a n c S P M) (h2 : RowP w b m d T Q N) (h : ∀ z, P z ↔ Q z) : Calls Tryd.prog 26 #[.slice a n c, .slice b m d] w fun e w' => e = .returned (.bool true) ∧ Below w.heap.size w w' :=
  (Same_any a n c S b m d T w h1.h h2.h).mono fun _ _ ⟨r, he, hs, hb⟩ => ⟨by rw [he, show r = true from hs.2 ⟨h1.may, h2.may, fun z => by rw [h1.set, h2.set]; exact h z⟩], hb⟩
theorem all_row (w : World) : Calls Tryd.prog 27 #[] w fun e w' => ∃ g : Nat, e = .returned (.slice (some ⟨g, 0, none⟩) 1 1) ∧ RowP w' (some ⟨g, 0, none⟩) 1 1 (fun _ => allS) inR 1 ∧ Below w.heap.size w w' :=
  (All_any w).mono fun _ _ ⟨he, hr, hb⟩ => ⟨_, he, ⟨hr, by rw [mayR_one _ rfl]; decide, Nat.le_refl _, all_in rfl⟩, hb⟩
/-- the numbers that are asked for -/
structure AskI (w3 wr : World) (v : Value) (li : List (Bool × Nat)) : Prop where
  o : wr.ownsRow w3.heap.size 31 5 v li.length (encI li)
  b : Below w3.heap.size w3 wr
  m : ∀ p ∈ li, p.2 < 2 ^ 256
theorem AskI.drop {w3 wr w1 : World} {v : Value} {li : List (Bool × Nat)} (h : AskI w3 wr v li) (hb : Below wr.heap.size wr w1) : AskI w3 w1 v li := by
  refine ⟨⟨h.o.1, ?_⟩, h.b.trans (below_weak hb h.b.size), h.m⟩
  rcases h.o.2 with hn | ⟨g, cap, cur, rfl, hg, hgg, rest⟩
  · exact .inl hn
  · exact .inr ⟨g, cap, cur, rfl, hg, by rw [hb.block g (Array.getElem?_eq_some_iff.1 hgg).1]; exact hgg, rest⟩
theorem AskI.keep {w3 wr wx w2 : World} {m : Nat} {v v' : Value} {li lj : List (Bool × Nat)} {xs : List Value} (h : AskI w3 wr v li) (hb : Below wr.heap.size wr wx) (hm : m = li.length + lj.length) (hx : encI lj = xs) (hl : ∀ p ∈ lj, p.2 < 2 ^ 256)
    (h2 : w2.ownsRow w3.heap.size 31 5 v' m (encI li ++ xs)) (hg : wx.grownBy w2 v.ownBlock) : AskI w3 w2 v' (li ++ lj) := by
  subst hm hx
  have h' := h.drop hb
  exact ⟨by rw [encI_app, List.length_append]; exact h2, h'.b.grown hg h'.b.size (fun k hk => (h.o.lt k hk).1), fun p hp => by
    rcases List.mem_append.1 hp with hp | hp
    · exact h.m p hp
    · exact hl p hp⟩
theorem has_or {w w1 w2 : World} {a b f : Option Addr} {n c m d k g M N K : Nat} {S T : Nat → Sp} {P Q : Int → Prop} {l : List Cl} (X : ResP w f k g l (fun z => P z ∨ Q z) K) (hK : K ≤ 1000) (A : RowP w1 a n c S P M) (B : RowP w2 b m d T Q N) {an : Bool} {av : Nat} (hm : mayI an av = true) : hasB (nthS (l.map opS)) k an av = (hasB S n an av || hasB T m an av) := by
  rw [Bool.eq_iff_iff, Bool.or_eq_true, hasP (X.row hK) hm, hasP A hm, hasP B hm]
theorem has_and {w w1 w2 : World} {a b f : Option Addr} {n c m d k g M N K : Nat} {S T : Nat → Sp} {P Q : Int → Prop} {l : List Cl} (X : ResP w f k g l (fun z => P z ∧ Q z) K) (hK : K ≤ 1000) (A : RowP w1 a n c S P M) (B : RowP w2 b m d T Q N) {an : Bool} {av : Nat} (hm : mayI an av = true) : hasB (nthS (l.map opS)) k an av = (hasB S n an av && hasB T m an av) := by
  rw [Bool.eq_iff_iff, Bool.and_eq_true, hasP (X.row hK) hm, hasP A hm, hasP B hm]
theorem has_not {w w1 : World} {a f : Option Addr} {n c k g M K : Nat} {S : Nat → Sp} {P : Int → Prop} {l : List Cl} (X : ResP w f k g l (fun z => inR z ∧ ¬ P z) K) (hK : K ≤ 1000) (A : RowP w1 a n c S P M) {an : Bool} {av : Nat} (hv : av < 2 ^ 256) (hm : mayI an av = true) : hasB (nthS (l.map opS)) k an av = !hasB S n an av := by
  rw [Bool.eq_iff_iff, Bool.not_eq_true', ← Bool.not_eq_true, hasP (X.row hK) hm, hasP A hm]
  exact ⟨fun h => h.2, fun h => ⟨zI_in hv, h⟩⟩
theorem has_norm {w w1 : World} {a f : Option Addr} {n c k g M K : Nat} {S : Nat → Sp} {P : Int → Prop} {l : List Cl} (X : ResP w f k g l P K) (hK : K ≤ 1000) (A : RowP w1 a n c S P M) {an : Bool} {av : Nat} (hm : mayI an av = true) : hasB (nthS (l.map opS)) k an av = hasB S n an av := by
  rw [Bool.eq_iff_iff, hasP (X.row hK) hm, hasP A hm]
theorem ask_lit {w : World} {nn : Bool} {nv : Nat} : (w.alloc (.cells #[.bool nn, .int .u64 (lm nv 0 : Nat), .int .u64 (lm nv 1 : Nat), .int .u64 (lm nv 2 : Nat), .int .u64 (lm nv 3 : Nat), .bool false, .int .u64 0, .int .u64 0, .int .u64 0, .int .u64 0] 31)).ownsRow w.heap.size 31 5 (.slice (some ⟨w.heap.size, 0, none⟩) 2 2) [(nn, nv), (false, 0)].length (encI [(nn, nv), (false, 0)]) := by
  have h := World.ownsRow_lit (base := w.heap.size) (e := 31) (size := 5) w #[.bool nn, .int .u64 (lm nv 0 : Nat), .int .u64 (lm nv 1 : Nat), .int .u64 (lm nv 2 : Nat), .int .u64 (lm nv 3 : Nat), .bool false, .int .u64 0, .int .u64 0, .int .u64 0, .int .u64 0] 2 (Nat.le_refl _) (by decide) rfl
  have e : encI [(nn, nv), (false, 0)] = [.bool nn, .int .u64 (lm nv 0 : Nat), .int .u64 (lm nv 1 : Nat), .int .u64 (lm nv 2 : Nat), .int .u64 (lm nv 3 : Nat), .bool false, .int .u64 0, .int .u64 0, .int .u64 0, .int .u64 0] := by
    unfold encI cellsI
    simp [lm_zero]
  rw [e]
  exact h
theorem stepU_any (n : Bool) (V : Nat) (hV : V < 2 ^ 256) (w : World) :
    Calls Tryd.prog 13 #[.agg #[.bool (n ), .int .u64 (lm ( V) 0 : Nat), .int .u64 (lm ( V) 1 : Nat), .int .u64 (lm ( V) 2 : Nat), .int .u64 (lm ( V) 3 : Nat)], .bool true] w fun e w' => e = .returned (.tuple #[.agg #[.bool (sg (nx 1 n V) ), .int .u64 (lm ( ab (nx 1 n V)) 0 : Nat), .int .u64 (lm ( ab (nx 1 n V)) 1 : Nat), .int .u64 (lm ( ab (nx 1 n V)) 2 : Nat), .int .u64 (lm ( ab (nx 1 n V)) 3 : Nat)], .bool (nxOk 1 n V)]) ∧ Below w.heap.size w w' := by
  have h := RStep_any n true V hV w
  rw [if_pos rfl] at h
  exact h
theorem row_same {w wr wa : World} {bb off n c k : Nat} {S : Nat → Sp} {a0 a1 a2 a3 a4 a5 a6 a7 a8 a9 b0 b1 : Value} (h : SRow w (some ⟨bb, off, none⟩) n c S) (hk : k < n) (h1 : Below w.heap.size w wr) (h2 : Below w.heap.size w wa) (hr : R12 wr bb (off + k * 12) a0 a1 a2 a3 a4 a5 a6 a7 a8 a9 b0 b1) : R12 wa bb (off + k * 12) a0 a1 a2 a3 a4 a5 a6 a7 a8 a9 b0 b1 := by
  rcases h.c with h0 | ⟨b', o', e, hl, -⟩
  · omega
  · injection e with e
    injection e with e1 _ _
    subst e1
    have hw : ∀ {o : Nat} {v : Value}, wr.cell? ⟨bb, o, none⟩ = some v → wa.cell? ⟨bb, o, none⟩ = some v := fun {o v} hc => by
      rw [h2.cell (p := ⟨bb, o, none⟩) hl, ← h1.cell (p := ⟨bb, o, none⟩) hl]
      exact hc
    obtain ⟨h0, h1, h2, h3, h4, h5, h6, h7, h8, h9, g0, g1⟩ := hr.all
    exact ⟨hw h0, hw h1, hw h2, hw h3, hw h4, hw h5, hw h6, hw h7, hw h8, hw h9, hw g0, hw g1⟩
set_option maxRecDepth 20000 in
set_option maxHeartbeats 8000000 in
theorem SpanHas_any (a : Option Addr) (n c : Nat) (S : Nat → Sp) (b : Option Addr) (m d : Nat) (T : Nat → Sp) (nn : Bool) (nv : Nat) (w : World) (h1 : SRow w a n c S) (h2 : SRow w b m d T) (hnv : nv < 2 ^ 256) (hT : Tabs w) :
    Calls Tryd.prog 7 #[.slice a n c, .slice b m d, .agg #[.bool (nn ), .int .u64 (lm ( nv) 0 : Nat), .int .u64 (lm ( nv) 1 : Nat), .int .u64 (lm ( nv) 2 : Nat), .int .u64 (lm ( nv) 3 : Nat)]] w fun e w' => e = .returned (.bool true) ∧ Below w.heap.size w w' := by
  have H1 := Lib.hid h1
  have H2 := Lib.hid h2
  have HT := Lib.hid hT
  have q1 := h1.l
  have q2 := h1.lc
  have q3 := h2.l
  have q4 := h2.lc
  simp only [maxLen] at q2 q4
  obtain ⟨R1, hR1⟩ : ∃ R, R = mayR S n := ⟨_, rfl⟩
  obtain ⟨R2, hR2⟩ : ∃ R, R = mayR T m := ⟨_, rfl⟩
  have FW := Lib.hid fun wx => few_any a b n c m d wx (by omega) (by omega)
  have M1 := Lib.hid fun wx (hx : SRow wx a n c S) => RMayS_any a n c S wx hx
  have M2 := Lib.hid fun wx (hx : SRow wx b m d T) => RMayS_any b m d T wx hx
  rw [← hR1] at M1
  rw [← hR2] at M2
  have HR := Lib.hid (And.intro hR1 hR2)
  have TL := Lib.hid fun wx (hb : Below w.heap.size w wx) => told_any wx (HT.out.below hb)
  clear h1 h2 hT hR1 hR2
  obtain ⟨fw, hfw⟩ : ∃ f, f = (decide (n ≤ 12) && decide (m ≤ 12)) := ⟨_, rfl⟩
  rw [← hfw] at FW
  have HF := Lib.hid hfw
  clear hfw q1 q2 q3 q4
  cases fw with
  | false =>
    go_enter Tryd.func7, Tryd.ntmps7
    repeat any_goals (first | (go_at_call 8; with_reducible refine (FW.out _).mono ?_; rintro e w1 ⟨rfl, hb1⟩; have X1 := Lib.hid ((@ibox_new w nn nv 31).below hb1); obtain ⟨_, _, _, _, _⟩ := X1.out.all; have hw1 : Below w.heap.size w w1 := (below_trans (by (repeat first | with_reducible exact Below.refl _ _ | with_reducible assumption | with_reducible refine Below.drew ?_ | with_reducible refine below_alloc ?_ _ | ((with_reducible refine Below.setCell ?_ ?_ _); rotate_left; (focus (first | with_reducible exact Nat.le_refl _ | (simp; done) | (simp; omega) | omega))) | (with_reducible refine below_trans ?_ (by assumption)))) hb1)) | (go_at_call 10; with_reducible refine (TL.out _ (by (repeat first | with_reducible exact Below.refl _ _ | with_reducible assumption | with_reducible refine Below.drew ?_ | with_reducible refine below_alloc ?_ _ | ((with_reducible refine Below.setCell ?_ ?_ _); rotate_left; (focus (first | with_reducible exact Nat.le_refl _ | (simp; done) | (simp; omega) | omega))) | (with_reducible refine below_trans ?_ (by assumption))))).mono ?_; rintro e w9 ⟨rfl, hb9⟩) | go_skip | go_guarded | go_step | go_upon | (dsimp only []))
    exact bodyPost_ret (v := .bool true) (by simp [results, Tryd.results7, go_sem]) rfl ⟨rfl, by (repeat first | with_reducible exact Below.refl _ _ | with_reducible assumption | with_reducible refine Below.drew ?_ | with_reducible refine below_alloc ?_ _ | ((with_reducible refine Below.setCell ?_ ?_ _); rotate_left; (focus (first | with_reducible exact Nat.le_refl _ | (simp; done) | (simp; omega) | omega))) | (with_reducible refine below_trans ?_ (by assumption)))⟩
  | true =>
    cases R1 with
    | false =>
      go_enter Tryd.func7, Tryd.ntmps7
      repeat any_goals (first | (go_at_call 8; with_reducible refine (FW.out _).mono ?_; rintro e w1 ⟨rfl, hb1⟩; have X1 := Lib.hid ((@ibox_new w nn nv 31).below hb1); obtain ⟨_, _, _, _, _⟩ := X1.out.all; have hw1 : Below w.heap.size w w1 := (below_trans (by (repeat first | with_reducible exact Below.refl _ _ | with_reducible assumption | with_reducible refine Below.drew ?_ | with_reducible refine below_alloc ?_ _ | ((with_reducible refine Below.setCell ?_ ?_ _); rotate_left; (focus (first | with_reducible exact Nat.le_refl _ | (simp; done) | (simp; omega) | omega))) | (with_reducible refine below_trans ?_ (by assumption)))) hb1)) | (go_at_call 9; with_reducible refine (M1.out _ (H1.out.below hw1)).mono ?_; rintro e w2 ⟨rfl, hb2⟩; have X2 := Lib.hid (X1.out.below hb2); obtain ⟨_, _, _, _, _⟩ := X2.out.all; have hw2 : Below w.heap.size w w2 := (hw1.trans (below_weak hb2 hw1.size))) | (go_at_call 10; with_reducible refine (TL.out _ (by (repeat first | with_reducible exact Below.refl _ _ | with_reducible assumption | with_reducible refine Below.drew ?_ | with_reducible refine below_alloc ?_ _ | ((with_reducible refine Below.setCell ?_ ?_ _); rotate_left; (focus (first | with_reducible exact Nat.le_refl _ | (simp; done) | (simp; omega) | omega))) | (with_reducible refine below_trans ?_ (by assumption))))).mono ?_; rintro e w9 ⟨rfl, hb9⟩) | go_skip | go_guarded | go_step | go_upon | (dsimp only []))
      exact bodyPost_ret (v := .bool true) (by simp [results, Tryd.results7, go_sem]) rfl ⟨rfl, by (repeat first | with_reducible exact Below.refl _ _ | with_reducible assumption | with_reducible refine Below.drew ?_ | with_reducible refine below_alloc ?_ _ | ((with_reducible refine Below.setCell ?_ ?_ _); rotate_left; (focus (first | with_reducible exact Nat.le_refl _ | (simp; done) | (simp; omega) | omega))) | (with_reducible refine below_trans ?_ (by assumption)))⟩
    | true =>
      cases R2 with
      | false =>
        go_enter Tryd.func7, Tryd.ntmps7
        repeat any_goals (first | (go_at_call 8; with_reducible refine (FW.out _).mono ?_; rintro e w1 ⟨rfl, hb1⟩; have X1 := Lib.hid ((@ibox_new w nn nv 31).below hb1); obtain ⟨_, _, _, _, _⟩ := X1.out.all; have hw1 : Below w.heap.size w w1 := (below_trans (by (repeat first | with_reducible exact Below.refl _ _ | with_reducible assumption | with_reducible refine Below.drew ?_ | with_reducible refine below_alloc ?_ _ | ((with_reducible refine Below.setCell ?_ ?_ _); rotate_left; (focus (first | with_reducible exact Nat.le_refl _ | (simp; done) | (simp; omega) | omega))) | (with_reducible refine below_trans ?_ (by assumption)))) hb1)) | (go_at_call 9; with_reducible refine (M1.out _ (H1.out.below hw1)).mono ?_; rintro e w2 ⟨rfl, hb2⟩; have X2 := Lib.hid (X1.out.below hb2); obtain ⟨_, _, _, _, _⟩ := X2.out.all; have hw2 : Below w.heap.size w w2 := (hw1.trans (below_weak hb2 hw1.size))) | (go_at_call 9; with_reducible refine (M2.out _ (H2.out.below hw2)).mono ?_; rintro e w3 ⟨rfl, hb3⟩; have X3 := Lib.hid (X2.out.below hb3); obtain ⟨_, _, _, _, _⟩ := X3.out.all; have hw3 : Below w.heap.size w w3 := (hw2.trans (below_weak hb3 hw2.size))) | (go_at_call 10; with_reducible refine (TL.out _ (by (repeat first | with_reducible exact Below.refl _ _ | with_reducible assumption | with_reducible refine Below.drew ?_ | with_reducible refine below_alloc ?_ _ | ((with_reducible refine Below.setCell ?_ ?_ _); rotate_left; (focus (first | with_reducible exact Nat.le_refl _ | (simp; done) | (simp; omega) | omega))) | (with_reducible refine below_trans ?_ (by assumption))))).mono ?_; rintro e w9 ⟨rfl, hb9⟩) | go_skip | go_guarded | go_step | go_upon | (dsimp only []))
        exact bodyPost_ret (v := .bool true) (by simp [results, Tryd.results7, go_sem]) rfl ⟨rfl, by (repeat first | with_reducible exact Below.refl _ _ | with_reducible assumption | with_reducible refine Below.drew ?_ | with_reducible refine below_alloc ?_ _ | ((with_reducible refine Below.setCell ?_ ?_ _); rotate_left; (focus (first | with_reducible exact Nat.le_refl _ | (simp; done) | (simp; omega) | omega))) | (with_reducible refine below_trans ?_ (by assumption)))⟩
      | true =>
        have hn12 : n ≤ 12 := by have := HF.out.symm; simp only [Bool.and_eq_true, decide_eq_true_eq] at this; exact this.1
        have hm12 : m ≤ 12 := by have := HF.out.symm; simp only [Bool.and_eq_true, decide_eq_true_eq] at this; exact this.2
        obtain ⟨i0, hi, hz0, hz1, hz2⟩ := info_parts infoI
        go_enter Tryd.func7, Tryd.ntmps7
        repeat any_goals (first | (go_at_call 8; with_reducible refine (FW.out _).mono ?_; rintro e w1 ⟨rfl, hb1⟩; have X1 := Lib.hid ((@ibox_new w nn nv 31).below hb1); obtain ⟨_, _, _, _, _⟩ := X1.out.all; have hw1 : Below w.heap.size w w1 := (below_trans (by (repeat first | with_reducible exact Below.refl _ _ | with_reducible assumption | with_reducible refine Below.drew ?_ | with_reducible refine below_alloc ?_ _ | ((with_reducible refine Below.setCell ?_ ?_ _); rotate_left; (focus (first | with_reducible exact Nat.le_refl _ | (simp; done) | (simp; omega) | omega))) | (with_reducible refine below_trans ?_ (by assumption)))) hb1)) | (go_at_call 9; with_reducible refine (M1.out _ (H1.out.below hw1)).mono ?_; rintro e w2 ⟨rfl, hb2⟩; have X2 := Lib.hid (X1.out.below hb2); obtain ⟨_, _, _, _, _⟩ := X2.out.all; have hw2 : Below w.heap.size w w2 := (hw1.trans (below_weak hb2 hw1.size))) | (go_at_call 9; with_reducible refine (M2.out _ (H2.out.below hw2)).mono ?_; rintro e w3 ⟨rfl, hb3⟩; have X3 := Lib.hid (X2.out.below hb3); obtain ⟨_, _, _, _, _⟩ := X3.out.all; have hw3 : Below w.heap.size w w3 := (hw2.trans (below_weak hb3 hw2.size))) | go_skip | go_guarded | go_step | go_upon | (dsimp only []))
        go_loopw [7, 8] (fun v i wr => ∃ (k : Nat) (li : List (Bool × Nat)), k ≤ n ∧ i = .int .i64 k ∧ AskI w3 wr v li ∧ li.length ≤ 2 + 3 * k) (fun _ i _ => n - (intOf i).toNat)
        case atStart =>
          exact ⟨0, [(nn, nv), (false, 0)], Nat.zero_le _, rfl, ⟨ask_lit, by (repeat first | with_reducible exact Below.refl _ _ | with_reducible assumption | with_reducible refine Below.drew ?_ | with_reducible refine below_alloc ?_ _ | ((with_reducible refine Below.setCell ?_ ?_ _); rotate_left; (focus (first | with_reducible exact Nat.le_refl _ | (simp; done) | (simp; omega) | omega))) | (with_reducible refine below_trans ?_ (by assumption))), fun p hp => by
            simp only [List.mem_cons, List.not_mem_nil, or_false] at hp
            rcases hp with rfl | rfl
            · exact hnv
            · exact Nat.two_pow_pos _⟩, Nat.le_refl _⟩
        case round =>
          obtain ⟨k, li, hk, rfl, I, hli⟩ := hrel
          have IH := Lib.hid I
          have hW3 : Below w.heap.size w wr := hw3.trans (below_weak I.b hw3.size)
          clear I
          by_cases hkn : k < n
          · obtain ⟨bb, off, hl, hh, nl, vl, nh, vh, ea, hbl, hs, hc, hvl, hvh⟩ := sp_lit H1.out hkn hW3
            subst ea
            obtain ⟨_, _, _, _, _, _, _, _, _, _, _, _⟩ := hc.all
            have bd1 : li.length + 2 ≤ maxLen := by simp only [maxLen]; omega
            have bd2 : (li.length + 2) * 40 ≤ 140737488355328 := by omega
            have BD := Lib.hid (And.intro bd1 bd2)
            clear bd1 bd2
            have be1 : li.length + 2 + 1 ≤ maxLen := by simp only [maxLen]; omega
            have be2 : (li.length + 2 + 1) * 40 ≤ 140737488355328 := by omega
            have BE' := Lib.hid (And.intro be1 be2)
            clear be1 be2
            have HV := Lib.hid (And.intro hvl hvh)
            have HC := Lib.hid hc
            have i1 : (k : Int) < (n : Int) := by omega
            have i2 : (0 : Int) ≤ (k : Int) := by omega
            have i5 : (k : Int).toNat = k := rfl
            have CS := Lib.hid fun wx => stepU_any nh vh hvh wx
            obtain ⟨rn, hrn⟩ : ∃ n, n = sg (nx 1 nh vh) := ⟨_, rfl⟩
            obtain ⟨rv, hrv⟩ : ∃ n, n = ab (nx 1 nh vh) := ⟨_, rfl⟩
            obtain ⟨q, hq⟩ : ∃ n, n = nxOk 1 nh vh := ⟨_, rfl⟩
            rw [← hrn, ← hrv, ← hq] at CS
            have hrb : rv < 2 ^ 256 := by rw [hrv]; exact nx_lt _ _ _
            have HRB := Lib.hid hrb
            clear hc hrn hrv hq hrb hs
            go_upto_region 7 with fail
            go_cut [7] (fun s7 wx => AskI w3 wx s7 (li ++ [(nl, vl), (nh, vh)]))
            case first =>
              go_region_law ((refine step_append_own rfl (.tmp 43) (.tmp 54) 48 rfl w3.heap.size 31 i0 (.agg #[.bool false, .int .u64 0, .int .u64 0, .int .u64 0, .int .u64 0]) 5 40 Tryd.underlying48 hi hz0 hz1 hz2 rfl (by decide) u7 li.length (encI li) (by simp [Act.eval]) (by first | exact (IH.out.o.alloc _).drew | exact (IH.out.o.drew).alloc _) ⟨wr.heap.size, 0, none⟩ 2 2 [.bool nl, .int .u64 (lm vl 0 : Nat), .int .u64 (lm vl 1 : Nat), .int .u64 (lm vl 2 : Nat), .int .u64 (lm vl 3 : Nat), .bool nh, .int .u64 (lm vh 0 : Nat), .int .u64 (lm vh 1 : Nat), .int .u64 (lm vh 2 : Nat), .int .u64 (lm vh 3 : Nat)] (by simp [Act.eval]) rfl (by first | exact ten_cells | exact (fun j u hj => ten_cells j u hj)) ten_one BD.out.1 BD.out.2 (by have := IH.out.b.size; simp; omega) ?_; intro v' wa hown' hgrow'))
              all_goals (
                repeat any_goals (first | go_skip | go_guarded | go_step | go_upon | (simp only []; done))
                go_meet
                case rel => exact IH.out.keep (wx := (wr.alloc (.cells #[.bool nl, .int .u64 (lm vl 0 : Nat), .int .u64 (lm vl 1 : Nat), .int .u64 (lm vl 2 : Nat), .int .u64 (lm vl 3 : Nat), .bool nh, .int .u64 (lm vh 0 : Nat), .int .u64 (lm vh 1 : Nat), .int .u64 (lm vh 2 : Nat), .int .u64 (lm vh 3 : Nat)] 31)).drew) (lj := [(nl, vl), (nh, vh)]) (by (repeat first | with_reducible exact Below.refl _ _ | with_reducible assumption | with_reducible refine Below.drew ?_ | with_reducible refine below_alloc ?_ _ | ((with_reducible refine Below.setCell ?_ ?_ _); rotate_left; (focus (first | with_reducible exact Nat.le_refl _ | (simp; done) | (simp; omega) | omega))) | (with_reducible refine below_trans ?_ (by assumption)))) rfl rfl (fun p hp => by
                  simp only [List.mem_cons, List.not_mem_nil, or_false] at hp
                  rcases hp with rfl | rfl
                  · exact HV.out.1
                  · exact HV.out.2) hown' hgrow')
            case rest =>
              have I2 := Lib.hid hcut
              have hW4 : Below w.heap.size w wc := hw3.trans (below_weak I2.out.b hw3.size)
              have RW := Lib.hid (show R12 wc bb (off + k * 12) (.bool hl) (.bool hh) (.bool nl) (.int .u64 (lm vl 0 : Nat)) (.int .u64 (lm vl 1 : Nat)) (.int .u64 (lm vl 2 : Nat)) (.int .u64 (lm vl 3 : Nat)) (.bool nh) (.int .u64 (lm vh 0 : Nat)) (.int .u64 (lm vh 1 : Nat)) (.int .u64 (lm vh 2 : Nat)) (.int .u64 (lm vh 3 : Nat)) from row_same H1.out hkn hW3 hW4 HC.out)
              obtain ⟨_, _, _, _, _, _, _, _, _, _, _, _⟩ := RW.out.all
              have BE := Lib.hid (show (li ++ [(nl, vl), (nh, vh)]).length + 1 ≤ maxLen ∧ ((li ++ [(nl, vl), (nh, vh)]).length + 1) * 40 ≤ 140737488355328 by
                have e : (li ++ [(nl, vl), (nh, vh)]).length = li.length + 2 := by simp
                rw [e]
                exact BE'.out)
              clear hcut IH
              cases q with
              | false =>
                repeat any_goals (first | (go_at_call 13; with_reducible refine (CS.out _).mono ?_; rintro e wb ⟨rfl, hbb⟩; have I3 := Lib.hid (I2.out.drop hbb)) | go_skip | go_guarded | go_step | go_upon | (dsimp only []))
                go_roundw
                case rel => exact ⟨k + 1, _, by omega, rfl, I3.out.drop (by (repeat first | with_reducible exact Below.refl _ _ | with_reducible assumption | with_reducible refine Below.drew ?_ | with_reducible refine below_alloc ?_ _ | ((with_reducible refine Below.setCell ?_ ?_ _); rotate_left; (focus (first | with_reducible exact Nat.le_refl _ | (simp; done) | (simp; omega) | omega))) | (with_reducible refine below_trans ?_ (by assumption)))), by simp only [List.length_append, List.length_cons, List.length_nil]; omega⟩
                case measure => simp [intOf]; omega
              | true =>
                repeat any_goals (first | (go_at_call 13; with_reducible refine (CS.out _).mono ?_; rintro e wb ⟨rfl, hbb⟩; have I3 := Lib.hid (I2.out.drop hbb)) | (at_builtin; refine wpList_append_own _ rfl (.tmp 66) (.tmp 68) 48 rfl w3.heap.size 31 i0 (.agg #[.bool false, .int .u64 0, .int .u64 0, .int .u64 0, .int .u64 0]) 5 40 Tryd.underlying48 hi hz0 hz1 hz2 rfl (by decide) _ _ _ rfl ((I3.out.o.alloc _).alloc _) ⟨wb.heap.size + 1, 0, none⟩ 1 1 [.bool rn, .int .u64 (lm rv 0 : Nat), .int .u64 (lm rv 1 : Nat), .int .u64 (lm rv 2 : Nat), .int .u64 (lm rv 3 : Nat)] rfl rfl (five_cells (by simp)) five_one BE.out.1 BE.out.2 (by have := I3.out.b.size; simp; omega) ?_; intro v'' wd hown'' hgrow'' _) | go_skip | go_guarded | go_step | go_upon | (dsimp only []))
                go_roundw
                case rel => exact ⟨k + 1, _, by omega, rfl, I3.out.keep (lj := [(rn, rv)]) (by (repeat first | with_reducible exact Below.refl _ _ | with_reducible assumption | with_reducible refine Below.drew ?_ | with_reducible refine below_alloc ?_ _ | ((with_reducible refine Below.setCell ?_ ?_ _); rotate_left; (focus (first | with_reducible exact Nat.le_refl _ | (simp; done) | (simp; omega) | omega))) | (with_reducible refine below_trans ?_ (by assumption)))) rfl rfl (fun p hp => by
                  obtain rfl := List.mem_singleton.1 hp
                  exact HRB.out) hown'' hgrow'', by simp only [List.length_append, List.length_cons, List.length_nil]; omega⟩
                case measure => simp [intOf]; omega
          · have i1 : ¬ (k : Int) < (n : Int) := by omega
            have RA := Lib.hid (show RowP wr a n c S (InS S n) 12 from ⟨H1.out.below hW3, HR.out.1.symm, hn12, fun _ => Iff.rfl⟩)
            have RB := Lib.hid (show RowP wr b m d T (InS T m) 12 from ⟨H2.out.below hW3, HR.out.2.symm, hm12, fun _ => Iff.rfl⟩)
            have RI := Lib.hid fun z (hz : InS S n z) => InS_in H1.out hz
            obtain ⟨len, hlen⟩ : ∃ q, q = li.length := ⟨_, rfl⟩
            obtain ⟨aL, cL, e7⟩ : ∃ a c, u7 = .slice a len c := by
              rcases IH.out.o.2 with ⟨e, h0⟩ | ⟨g, cap, cur, e, -⟩
              · exact ⟨none, 0, by rw [e, hlen, h0]⟩
              · exact ⟨_, _, by rw [e, hlen]⟩
            subst e7
            have HLn := Lib.hid hlen
            have hl38 : len ≤ 38 := by omega
            have IJ := IH
            have hq := hW3
            clear hlen hli IH
            repeat any_goals (first | go_skip | go_guarded | go_step | go_upon | (simp only []; done))
            refine (or_row RA.out RB.out (by decide) (by decide)).mono ?_
            rintro e y1 ⟨v1, rfl, hg1⟩
            obtain ⟨a1, n1, c1, l1, rfl, hr1, hb1⟩ := hg1
            have XO := Lib.hid hr1
            clear hr1
            have RA := Lib.hid (RA.out.below hb1)
            have RB := Lib.hid (RB.out.below hb1)
            have hq := hq.trans (below_weak hb1 hq.size)
            have IJ := Lib.hid (IJ.out.drop hb1)
            clear hb1
            dsimp only []
            repeat any_goals (first | go_skip | go_guarded | go_step | go_upon | (simp only []; done))
            refine (and_row RA.out RB.out (by decide) (by decide)).mono ?_
            rintro e y2 ⟨v2, rfl, hg2⟩
            obtain ⟨a2, n2, c2, l2, rfl, hr2, hb2⟩ := hg2
            have XA := Lib.hid hr2
            clear hr2
            have RA := Lib.hid (RA.out.below hb2)
            have RB := Lib.hid (RB.out.below hb2)
            have XO := Lib.hid (XO.out.below hb2)
            have hq := hq.trans (below_weak hb2 hq.size)
            have IJ := Lib.hid (IJ.out.drop hb2)
            clear hb2
            dsimp only []
            repeat any_goals (first | go_skip | go_guarded | go_step | go_upon | (simp only []; done))
            refine (not_row RA.out (by decide)).mono ?_
            rintro e y3 ⟨v3, rfl, hg3⟩
            obtain ⟨a3, n3, c3, l3, rfl, hr3, hb3⟩ := hg3
            have XN := Lib.hid hr3
            clear hr3
            have RA := Lib.hid (RA.out.below hb3)
            have RB := Lib.hid (RB.out.below hb3)
            have XO := Lib.hid (XO.out.below hb3)
            have XA := Lib.hid (XA.out.below hb3)
            have hq := hq.trans (below_weak hb3 hq.size)
            have IJ := Lib.hid (IJ.out.drop hb3)
            clear hb3
            dsimp only []
            repeat any_goals (first | go_skip | go_guarded | go_step | go_upon | (simp only []; done))
            refine (norm_row RA.out (by decide)).mono ?_
            rintro e y4 ⟨v4, rfl, hg4⟩
            obtain ⟨a4, n4, c4, l4, rfl, hr4, hb4⟩ := hg4
            have XM := Lib.hid hr4
            clear hr4
            have RA := Lib.hid (RA.out.below hb4)
            have RB := Lib.hid (RB.out.below hb4)
            have XO := Lib.hid (XO.out.below hb4)
            have XA := Lib.hid (XA.out.below hb4)
            have XN := Lib.hid (XN.out.below hb4)
            have hq := hq.trans (below_weak hb4 hq.size)
            have IJ := Lib.hid (IJ.out.drop hb4)
            clear hb4
            dsimp only []
            repeat any_goals (first | go_skip | go_guarded | go_step | go_upon | (simp only []; done))
            go_loopw [15] (fun i wq => ∃ k2 : Nat, k2 ≤ len ∧ i = .int .i64 k2 ∧ Below y4.heap.size y4 wq) (fun i _ => len - (intOf i).toNat)
            case atStart => exact ⟨0, Nat.zero_le _, rfl, Below.refl _ _⟩
            case round =>
              obtain ⟨k2, hk2, rfl, hW7⟩ := hrel
              by_cases hk3 : k2 < len
              · have hIo := (IJ.out.drop hW7).o
                rw [← HLn.out] at hIo
                obtain ⟨g, cp, xn, xv, eu, hgl, hmem, hr5⟩ := il_lit hIo HLn.out hk3
                injection eu with e1 _ e3
                subst e1 e3
                have hxv := IJ.out.m _ hmem
                simp only at hxv
                obtain ⟨_, _, _, _, _⟩ := hr5.all
                have j1 : (k2 : Int) < (len : Int) := by omega
                have j2 : (0 : Int) ≤ (k2 : Int) := by omega
                have j5 : (k2 : Int).toNat = k2 := rfl
                obtain ⟨q0, hq0⟩ : ∃ q, q = mayI xn xv := ⟨_, rfl⟩
                have CM := Lib.hid fun wx => RMayI_any xn xv hxv wx
                rw [← hq0] at CM
                obtain ⟨p, hp⟩ : ∃ r, r = hasB S n xn xv := ⟨_, rfl⟩
                obtain ⟨q, hq1⟩ : ∃ r, r = hasB T m xn xv := ⟨_, rfl⟩
                have CA := Lib.hid fun wx (hb : Below y4.heap.size y4 wx) => hasC (an := xn) hxv (RA.out.h.below hb)
                have CB := Lib.hid fun wx (hb : Below y4.heap.size y4 wx) => hasC (an := xn) hxv (RB.out.h.below hb)
                have CR := Lib.hid fun wx (hb : Below y4.heap.size y4 wx) => rhasC (an := xn) hxv (RA.out.h.below hb)
                have CO := Lib.hid fun wx (hb : Below y4.heap.size y4 wx) => hasC (an := xn) hxv (XO.out.h.below hb)
                have CD := Lib.hid fun wx (hb : Below y4.heap.size y4 wx) => hasC (an := xn) hxv (XA.out.h.below hb)
                have CN := Lib.hid fun wx (hb : Below y4.heap.size y4 wx) => hasC (an := xn) hxv (XN.out.h.below hb)
                have CX := Lib.hid fun wx (hb : Below y4.heap.size y4 wx) => hasC (an := xn) hxv (XM.out.h.below hb)
                rw [← hp] at CA CR
                rw [← hq1] at CB
                have HPQ := Lib.hid (And.intro hp (And.intro hq1 hq0))
                have HXV := Lib.hid hxv
                clear hp hq1 hq0 hr5 hmem hIo hxv
                cases q0 with
                | false =>
                  obtain rfl : p = false := by
                    rw [HPQ.out.1, ← Bool.not_eq_true, hasB_iff, ← HPQ.out.2.2]
                    exact fun h => by cases h.2.1
                  repeat any_goals (first | (go_at_call 28; with_reducible refine (CM.out _).mono ?_; rintro e u1 ⟨rfl, hc1⟩; have B1 := Lib.hid ((@ibox_new wr xn xv 31).below hc1); obtain ⟨_, _, _, _, _⟩ := B1.out.all; have hu1 : Below y4.heap.size y4 u1 := (hW7.trans (below_weak (below_trans (by (repeat first | with_reducible exact Below.refl _ _ | with_reducible assumption | with_reducible refine Below.drew ?_ | with_reducible refine below_alloc ?_ _ | ((with_reducible refine Below.setCell ?_ ?_ _); rotate_left; (focus (first | with_reducible exact Nat.le_refl _ | (simp; done) | (simp; omega) | omega))) | (with_reducible refine below_trans ?_ (by assumption)))) hc1) hW7.size))) | (go_at_call 16; with_reducible refine (CA.out _ hu1).mono ?_; rintro e u2 ⟨rfl, hc2⟩) | go_skip | go_guarded | go_step | go_upon | (dsimp only []))
                  go_roundw
                  case rel => exact ⟨k2 + 1, by omega, rfl, below_trans hu1 hc2⟩
                  case measure => simp [intOf]; omega
                | true =>
                  have hm := HPQ.out.2.2.symm
                  obtain ⟨po, hpo⟩ : ∃ r, r = hasB (nthS (l1.map opS)) n1 xn xv := ⟨_, rfl⟩
                  obtain ⟨pa, hpa⟩ : ∃ r, r = hasB (nthS (l2.map opS)) n2 xn xv := ⟨_, rfl⟩
                  obtain ⟨pn, hpn⟩ : ∃ r, r = hasB (nthS (l3.map opS)) n3 xn xv := ⟨_, rfl⟩
                  rw [← hpo] at CO
                  rw [← hpa] at CD
                  rw [← hpn] at CN
                  rw [show hasB (nthS (l4.map opS)) n4 xn xv = p from by rw [HPQ.out.1]; exact has_norm XM.out (by decide) RA.out hm] at CX
                  have HPO := Lib.hid (show po = (p || q) from by rw [hpo, HPQ.out.1, HPQ.out.2.1]; exact has_or XO.out (by decide) RA.out RB.out hm)
                  have HPA := Lib.hid (show pa = (p && q) from by rw [hpa, HPQ.out.1, HPQ.out.2.1]; exact has_and XA.out (by decide) RA.out RB.out hm)
                  have HPN := Lib.hid (show pn = !p from by rw [hpn, HPQ.out.1]; exact has_not XN.out (by decide) RA.out HXV.out hm)
                  clear hpo hpa hpn hm HPQ
                  go_upto_region 19 with (first | (go_at_call 28; with_reducible refine (CM.out _).mono ?_; rintro e u1 ⟨rfl, hc1⟩; have B1 := Lib.hid ((@ibox_new wr xn xv 31).below hc1); obtain ⟨_, _, _, _, _⟩ := B1.out.all; have hu1 : Below y4.heap.size y4 u1 := (hW7.trans (below_weak (below_trans (by (repeat first | with_reducible exact Below.refl _ _ | with_reducible assumption | with_reducible refine Below.drew ?_ | with_reducible refine below_alloc ?_ _ | ((with_reducible refine Below.setCell ?_ ?_ _); rotate_left; (focus (first | with_reducible exact Nat.le_refl _ | (simp; done) | (simp; omega) | omega))) | (with_reducible refine below_trans ?_ (by assumption)))) hc1) hW7.size))))
                  (obtain ⟨C_, hC⟩ : ∃ C : World → Prop, C = fun w' => Below (u1).heap.size (u1) w' := ⟨_, rfl⟩; have HC := Lib.hid hC; have hne : ∀ p : Prop, (∀ w1 : World, C_ w1 → p) = p := fun p => propext ⟨fun h => h (u1) (by rw [hC]; exact Below.refl _ _), fun h _ _ => h⟩; clear hC; refine wp_region_quiet_cls (C := C_) (by kernel_rfl) (by kernel_rfl) (by rw [HC.out]; exact (Below.refl _ _).drew) ?_)
                  (go_big_quiet_want; go_big_quiet_op; go_big_quiet_on)
                  (go_big_quiet_want; refine ⟨.agg #[.bool xn, .int .u64 (lm xv 0 : Nat), .int .u64 (lm xv 1 : Nat), .int .u64 (lm xv 2 : Nat), .int .u64 (lm xv 3 : Nat)], fun w1 hw1 => ?_, ?_⟩; (rw [HC.out] at hw1; obtain ⟨_, _, _, _, _⟩ := (B1.out.below hw1).all; simp [Oper.quietAt, go_sem, *]); (try simp only [Act.put, List.setIfInBounds_toArray, List.set_cons_zero, List.set_cons_succ]); go_big_quiet_on)
                  (go_big_quiet_want; go_big_quiet_op; refine ⟨.bool p, fun w1 hw1 => ?_, ?_⟩; (rw [HC.out] at hw1 ⊢; with_reducible refine (CA.out _ (below_trans hu1 hw1)).mono ?_; rintro e w4 ⟨rfl, hb4⟩; exact ⟨rfl, below_trans hw1 hb4⟩); go_big_quiet_on)
                  (go_big_quiet_want; go_big_quiet_op; go_big_quiet_on)
                  (go_big_quiet_want; refine ⟨.agg #[.bool xn, .int .u64 (lm xv 0 : Nat), .int .u64 (lm xv 1 : Nat), .int .u64 (lm xv 2 : Nat), .int .u64 (lm xv 3 : Nat)], fun w1 hw1 => ?_, ?_⟩; (rw [HC.out] at hw1; obtain ⟨_, _, _, _, _⟩ := (B1.out.below hw1).all; simp [Oper.quietAt, go_sem, *]); (try simp only [Act.put, List.setIfInBounds_toArray, List.set_cons_zero, List.set_cons_succ]); go_big_quiet_on)
                  (go_big_quiet_want; go_big_quiet_op; refine ⟨.bool q, fun w1 hw1 => ?_, ?_⟩; (rw [HC.out] at hw1 ⊢; with_reducible refine (CB.out _ (below_trans hu1 hw1)).mono ?_; rintro e w4 ⟨rfl, hb4⟩; exact ⟨rfl, below_trans hw1 hb4⟩); go_big_quiet_on)
                  (go_big_quiet_want; go_big_quiet_op; go_big_quiet_on)
                  (go_big_quiet_want; go_big_quiet_op; go_big_quiet_on)
                  (refine wpQuiet_nil ?_; intro w2 hw2; rw [HC.out] at hw2)
                  have hk0 : Below y4.heap.size y4 w2 := below_trans hu1 hw2
                  have B2 := Lib.hid (B1.out.below hw2)
                  obtain ⟨_, _, _, _, _⟩ := B2.out.all
                  clear hw2
                  cases p <;> cases q
                  · obtain rfl : po = false := HPO.out
                    obtain rfl : pa = false := HPA.out
                    obtain rfl : pn = true := HPN.out
                    repeat any_goals (first | (go_at_call 29; with_reducible refine (CR.out _ hk0).mono ?_; rintro e zw1 ⟨rfl, hd1⟩; have B3 := Lib.hid (B2.out.below hd1); obtain ⟨_, _, _, _, _⟩ := B3.out.all; have hk1 : Below y4.heap.size y4 zw1 := below_trans hk0 hd1) | (go_at_call 16; with_reducible refine (CO.out _ hk1).mono ?_; rintro e zw2 ⟨rfl, hd2⟩; have B4 := Lib.hid (B3.out.below hd2); obtain ⟨_, _, _, _, _⟩ := B4.out.all; have hk2 : Below y4.heap.size y4 zw2 := below_trans hk1 hd2) | (go_at_call 16; with_reducible refine (CD.out _ hk2).mono ?_; rintro e zw3 ⟨rfl, hd3⟩; have B5 := Lib.hid (B4.out.below hd3); obtain ⟨_, _, _, _, _⟩ := B5.out.all; have hk3 : Below y4.heap.size y4 zw3 := below_trans hk2 hd3) | (go_at_call 16; with_reducible refine (CN.out _ hk3).mono ?_; rintro e zw4 ⟨rfl, hd4⟩; have B6 := Lib.hid (B5.out.below hd4); obtain ⟨_, _, _, _, _⟩ := B6.out.all; have hk4 : Below y4.heap.size y4 zw4 := below_trans hk3 hd4) | (go_at_call 16; with_reducible refine (CX.out _ hk4).mono ?_; rintro e zw5 ⟨rfl, hd5⟩; have B7 := Lib.hid (B6.out.below hd5); obtain ⟨_, _, _, _, _⟩ := B7.out.all; have hk5 : Below y4.heap.size y4 zw5 := below_trans hk4 hd5) | go_skip | go_guarded | go_step | go_upon | (dsimp only []))
                    go_roundw
                    case rel => exact ⟨k2 + 1, by omega, rfl, hk5⟩
                    case measure => simp [intOf]; omega
                  · obtain rfl : po = true := HPO.out
                    obtain rfl : pa = false := HPA.out
                    obtain rfl : pn = true := HPN.out
                    repeat any_goals (first | (go_at_call 29; with_reducible refine (CR.out _ hk0).mono ?_; rintro e zw1 ⟨rfl, hd1⟩; have B3 := Lib.hid (B2.out.below hd1); obtain ⟨_, _, _, _, _⟩ := B3.out.all; have hk1 : Below y4.heap.size y4 zw1 := below_trans hk0 hd1) | (go_at_call 16; with_reducible refine (CO.out _ hk1).mono ?_; rintro e zw2 ⟨rfl, hd2⟩; have B4 := Lib.hid (B3.out.below hd2); obtain ⟨_, _, _, _, _⟩ := B4.out.all; have hk2 : Below y4.heap.size y4 zw2 := below_trans hk1 hd2) | (go_at_call 16; with_reducible refine (CD.out _ hk2).mono ?_; rintro e zw3 ⟨rfl, hd3⟩; have B5 := Lib.hid (B4.out.below hd3); obtain ⟨_, _, _, _, _⟩ := B5.out.all; have hk3 : Below y4.heap.size y4 zw3 := below_trans hk2 hd3) | (go_at_call 16; with_reducible refine (CN.out _ hk3).mono ?_; rintro e zw4 ⟨rfl, hd4⟩; have B6 := Lib.hid (B5.out.below hd4); obtain ⟨_, _, _, _, _⟩ := B6.out.all; have hk4 : Below y4.heap.size y4 zw4 := below_trans hk3 hd4) | (go_at_call 16; with_reducible refine (CX.out _ hk4).mono ?_; rintro e zw5 ⟨rfl, hd5⟩; have B7 := Lib.hid (B6.out.below hd5); obtain ⟨_, _, _, _, _⟩ := B7.out.all; have hk5 : Below y4.heap.size y4 zw5 := below_trans hk4 hd5) | go_skip | go_guarded | go_step | go_upon | (dsimp only []))
                    go_roundw
                    case rel => exact ⟨k2 + 1, by omega, rfl, hk5⟩
                    case measure => simp [intOf]; omega
                  · obtain rfl : po = true := HPO.out
                    obtain rfl : pa = false := HPA.out
                    obtain rfl : pn = false := HPN.out
                    repeat any_goals (first | (go_at_call 29; with_reducible refine (CR.out _ hk0).mono ?_; rintro e zw1 ⟨rfl, hd1⟩; have B3 := Lib.hid (B2.out.below hd1); obtain ⟨_, _, _, _, _⟩ := B3.out.all; have hk1 : Below y4.heap.size y4 zw1 := below_trans hk0 hd1) | (go_at_call 16; with_reducible refine (CO.out _ hk1).mono ?_; rintro e zw2 ⟨rfl, hd2⟩; have B4 := Lib.hid (B3.out.below hd2); obtain ⟨_, _, _, _, _⟩ := B4.out.all; have hk2 : Below y4.heap.size y4 zw2 := below_trans hk1 hd2) | (go_at_call 16; with_reducible refine (CD.out _ hk2).mono ?_; rintro e zw3 ⟨rfl, hd3⟩; have B5 := Lib.hid (B4.out.below hd3); obtain ⟨_, _, _, _, _⟩ := B5.out.all; have hk3 : Below y4.heap.size y4 zw3 := below_trans hk2 hd3) | (go_at_call 16; with_reducible refine (CN.out _ hk3).mono ?_; rintro e zw4 ⟨rfl, hd4⟩; have B6 := Lib.hid (B5.out.below hd4); obtain ⟨_, _, _, _, _⟩ := B6.out.all; have hk4 : Below y4.heap.size y4 zw4 := below_trans hk3 hd4) | (go_at_call 16; with_reducible refine (CX.out _ hk4).mono ?_; rintro e zw5 ⟨rfl, hd5⟩; have B7 := Lib.hid (B6.out.below hd5); obtain ⟨_, _, _, _, _⟩ := B7.out.all; have hk5 : Below y4.heap.size y4 zw5 := below_trans hk4 hd5) | go_skip | go_guarded | go_step | go_upon | (dsimp only []))
                    go_roundw
                    case rel => exact ⟨k2 + 1, by omega, rfl, hk5⟩
                    case measure => simp [intOf]; omega
                  · obtain rfl : po = true := HPO.out
                    obtain rfl : pa = true := HPA.out
                    obtain rfl : pn = false := HPN.out
                    repeat any_goals (first | (go_at_call 29; with_reducible refine (CR.out _ hk0).mono ?_; rintro e zw1 ⟨rfl, hd1⟩; have B3 := Lib.hid (B2.out.below hd1); obtain ⟨_, _, _, _, _⟩ := B3.out.all; have hk1 : Below y4.heap.size y4 zw1 := below_trans hk0 hd1) | (go_at_call 16; with_reducible refine (CO.out _ hk1).mono ?_; rintro e zw2 ⟨rfl, hd2⟩; have B4 := Lib.hid (B3.out.below hd2); obtain ⟨_, _, _, _, _⟩ := B4.out.all; have hk2 : Below y4.heap.size y4 zw2 := below_trans hk1 hd2) | (go_at_call 16; with_reducible refine (CD.out _ hk2).mono ?_; rintro e zw3 ⟨rfl, hd3⟩; have B5 := Lib.hid (B4.out.below hd3); obtain ⟨_, _, _, _, _⟩ := B5.out.all; have hk3 : Below y4.heap.size y4 zw3 := below_trans hk2 hd3) | (go_at_call 16; with_reducible refine (CN.out _ hk3).mono ?_; rintro e zw4 ⟨rfl, hd4⟩; have B6 := Lib.hid (B5.out.below hd4); obtain ⟨_, _, _, _, _⟩ := B6.out.all; have hk4 : Below y4.heap.size y4 zw4 := below_trans hk3 hd4) | (go_at_call 16; with_reducible refine (CX.out _ hk4).mono ?_; rintro e zw5 ⟨rfl, hd5⟩; have B7 := Lib.hid (B6.out.below hd5); obtain ⟨_, _, _, _, _⟩ := B7.out.all; have hk5 : Below y4.heap.size y4 zw5 := below_trans hk4 hd5) | go_skip | go_guarded | go_step | go_upon | (dsimp only []))
                    go_roundw
                    case rel => exact ⟨k2 + 1, by omega, rfl, hk5⟩
                    case measure => simp [intOf]; omega
              · have j1 : ¬ (k2 : Int) < (len : Int) := by omega
                have RA := Lib.hid (RA.out.below hW7)
                have XN := Lib.hid (XN.out.below hW7)
                have hq := hq.trans (below_weak hW7 hq.size)
                repeat any_goals (first | go_skip | go_guarded | go_step | go_upon | (simp only []; done))
                refine (TL.out _ hq).mono ?_
                rintro e y11 ⟨rfl, hb11⟩
                have RA := Lib.hid (RA.out.below hb11)
                have XN := Lib.hid (XN.out.below hb11)
                have hq := hq.trans (below_weak hb11 hq.size)
                clear hb11
                dsimp only []
                repeat any_goals (first | go_skip | go_guarded | go_step | go_upon | (simp only []; done))
                refine (not_row (XN.out.row (by decide)) (by decide)).mono ?_
                rintro e y12 ⟨v12, rfl, hg12⟩
                obtain ⟨a12, n12, c12, l12, rfl, hr12, hb12⟩ := hg12
                have Y1 := Lib.hid hr12
                clear hr12
                have RA := Lib.hid (RA.out.below hb12)
                have XN := Lib.hid (XN.out.below hb12)
                have hq := hq.trans (below_weak hb12 hq.size)
                clear hb12
                dsimp only []
                repeat any_goals (first | go_skip | go_guarded | go_step | go_upon | (simp only []; done))
                refine (same_row (Y1.out.row (by decide)) RA.out (fun z => ⟨fun h => Classical.byContradiction fun hn => h.2 ⟨h.1, hn⟩, fun h => ⟨RI.out z h, fun x => x.2 h⟩⟩)).mono ?_
                rintro e y13 ⟨rfl, hb13⟩
                have RA := Lib.hid (RA.out.below hb13)
                have XN := Lib.hid (XN.out.below hb13)
                have hq := hq.trans (below_weak hb13 hq.size)
                clear hb13
                dsimp only []
                repeat any_goals (first | go_skip | go_guarded | go_step | go_upon | (simp only []; done))
                refine (and_row RA.out (XN.out.row (by decide)) (by decide) (by decide)).mono ?_
                rintro e y14 ⟨v14, rfl, hg14⟩
                obtain ⟨a14, n14, c14, l14, rfl, hr14, hb14⟩ := hg14
                have Y2 := Lib.hid hr14
                clear hr14
                have RA := Lib.hid (RA.out.below hb14)
                have XN := Lib.hid (XN.out.below hb14)
                have hq := hq.trans (below_weak hb14 hq.size)
                clear hb14
                dsimp only []
                repeat any_goals (first | go_skip | go_guarded | go_step | go_upon | (simp only []; done))
                refine (same_row (Y2.out.row (by decide)) (nil_row _) (fun z => ⟨fun h => h.2.2 h.1, fun h => h.elim⟩)).mono ?_
                rintro e y15 ⟨rfl, hb15⟩
                have RA := Lib.hid (RA.out.below hb15)
                have XN := Lib.hid (XN.out.below hb15)
                have hq := hq.trans (below_weak hb15 hq.size)
                clear hb15
                dsimp only []
                repeat any_goals (first | go_skip | go_guarded | go_step | go_upon | (simp only []; done))
                refine (or_row RA.out (XN.out.row (by decide)) (by decide) (by decide)).mono ?_
                rintro e y16 ⟨v16, rfl, hg16⟩
                obtain ⟨a16, n16, c16, l16, rfl, hr16, hb16⟩ := hg16
                have Y3 := Lib.hid hr16
                clear hr16
                have hq := hq.trans (below_weak hb16 hq.size)
                clear hb16
                dsimp only []
                repeat any_goals (first | go_skip | go_guarded | go_step | go_upon | (simp only []; done))
                refine (all_row _).mono ?_
                rintro e y17 ⟨g17, rfl, hr17, hb17⟩
                have Y4 := Lib.hid hr17
                clear hr17
                have Y3 := Lib.hid (Y3.out.below hb17)
                have hq := hq.trans (below_weak hb17 hq.size)
                clear hb17
                dsimp only []
                repeat any_goals (first | go_skip | go_guarded | go_step | go_upon | (simp only []; done))
                refine (same_row (Y3.out.row (by decide)) Y4.out (fun z => ⟨fun h => h.elim (fun x => RI.out z x) (fun x => x.1), fun h => (Classical.em (InS S n z)).elim .inl (fun x => .inr ⟨h, x⟩)⟩)).mono ?_
                rintro e y18 ⟨rfl, hb18⟩
                have hq := hq.trans (below_weak hb18 hq.size)
                clear hb18
                dsimp only []
                repeat any_goals (first | go_skip | go_guarded | go_step | go_upon | (simp only []; done))
                exact bodyPost_ret (v := .bool true) (by simp [results, Tryd.results7, go_sem]) rfl ⟨rfl, hq⟩
end Go.Proofs.YtekeedjhaakbhaaDoor
