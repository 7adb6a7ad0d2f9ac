/- The law SpanHas. -/
import Derived.Test.YtekeedjhaakbhaaGreatDoorRows9
import Derived.Test.YtekeedjhaakbhaaGreatDoorRefH
import Derived.Deep.DeepCutAuto
namespace Go.Proofs.YtekeedjhaakbhaaGreatDoor
open Go Go.RowKit
def cellsI (p : Bool × Nat) : List Value := [.bool p.1, .int .u64 (lm p.2 0 : Nat), .int .u64 (lm p.2 1 : Nat), .int .u64 (lm p.2 2 : Nat), .int .u64 (lm p.2 3 : Nat)]
def encI (l : List (Bool × Nat)) : List Value := l.flatMap cellsI
theorem encI_len (l : List (Bool × Nat)) : (encI l).length = l.length * 5 := by
  induction l with
  | nil => rfl
  | cons c t ih =>
    show (cellsI c ++ encI t).length = _
    rw [List.length_append, ih, List.length_cons, show (cellsI c).length = 5 from rfl]
    omega
theorem encI_app (l m : List (Bool × Nat)) : encI (l ++ m) = encI l ++ encI m := by unfold encI; rw [List.flatMap_append]
theorem encI_get : ∀ (l : List (Bool × Nat)) (i j : Nat) (h : i < l.length), j < 5 → (encI l)[i * 5 + j]? = (cellsI l[i])[j]? := by
  intro l
  induction l with
  | nil => intro i j hi; exact absurd hi (Nat.not_lt_zero _)
  | cons c t ih =>
    intro i j hi hj
    show (cellsI c ++ encI t)[i * 5 + j]? = _
    have hc : (cellsI c).length = 5 := rfl
    cases i with
    | zero =>
      rw [Nat.zero_mul, Nat.zero_add, List.getElem?_append_left (by omega)]
      rfl
    | succ i =>
      rw [List.getElem?_append_right (by omega), hc, show (i + 1) * 5 + j - 5 = i * 5 + j by omega]
      exact ih i j (by simpa using hi) hj
/-- five cells of a block, from an offset on -/
structure R5 (w : World) (B o : Nat) (n : Bool) (V : Nat) : Prop where
  all : w.cell? ⟨B, o, none⟩ = some (.bool n) ∧ w.cell? ⟨B, o + 1, none⟩ = some (.int .u64 (lm V 0 : Nat)) ∧ w.cell? ⟨B, o + 2, none⟩ = some (.int .u64 (lm V 1 : Nat)) ∧ w.cell? ⟨B, o + 3, none⟩ = some (.int .u64 (lm V 2 : Nat)) ∧ w.cell? ⟨B, o + 4, none⟩ = some (.int .u64 (lm V 3 : Nat))
theorem il_lit {w : World} {B T i n : Nat} {v : Value} {l : List (Bool × Nat)} (h : w.ownsRow B T 5 v n (encI l)) (hn : n = l.length) (hi : i < n) :
    ∃ (g cap : Nat) (xn : Bool) (xv : Nat), v = .slice (some ⟨g, 0, none⟩) n cap ∧ g < w.heap.size ∧ (xn, xv) ∈ l ∧ R5 w g (i * 5) xn xv := by
  subst hn
  rcases h.2 with ⟨-, h0⟩ | ⟨g, cap, cur, rfl, hB, hg, hc, hm, -⟩
  · omega
  · have hw : ∀ j, j < 5 → w.cell? ⟨g, i * 5 + j, none⟩ = (cellsI l[i])[j]? := fun j hj => by
      rw [h.cellAt (i * 5 + j) (by omega)]
      exact encI_get l i j hi hj
    exact ⟨g, cap, l[i].1, l[i].2, rfl, (Array.getElem?_eq_some_iff.1 hg).1, List.getElem_mem hi, ⟨⟨hw 0 (by omega), hw 1 (by omega), hw 2 (by omega), hw 3 (by omega), hw 4 (by omega)⟩⟩⟩
theorem infoI : (Tryz.prog.info? 29).map (fun i => (i.zero, i.size, i.bytes)) = some (some (.agg #[.bool false, .int .u64 0, .int .u64 0, .int .u64 0, .int .u64 0]), 5, 40) := by kernel_rfl
theorem five_cells {w1 : World} {t : TypeId} {B : Nat} {v0 v1 v2 v3 v4 : Value} (hB : B = w1.heap.size) : ∀ (j : Nat) (u : Value), [v0, v1, v2, v3, v4][j]? = some u → (w1.alloc (.cells #[v0, v1, v2, v3, v4] t)).cell? ((⟨B, 0, none⟩ : Addr).add j) = some u := by
  subst hB
  intro j u hj
  match j, hj with
  | 0, hj => simp at hj; subst hj; simp [Addr.add, go_sem]
  | 1, hj => simp at hj; subst hj; simp [Addr.add, go_sem]
  | 2, hj => simp at hj; subst hj; simp [Addr.add, go_sem]
  | 3, hj => simp at hj; subst hj; simp [Addr.add, go_sem]
  | 4, hj => simp at hj; subst hj; simp [Addr.add, go_sem]
  | n + 5, hj => simp at hj
theorem five_one {a : Bool} {A : Nat} : ∀ u ∈ ([.bool a, .int .u64 (lm A 0 : Nat), .int .u64 (lm A 1 : Nat), .int .u64 (lm A 2 : Nat), .int .u64 (lm A 3 : Nat)] : List Value), u.oneCell' = true := by
  intro v hv
  simp only [List.mem_cons, List.not_mem_nil, or_false] at hv
  rcases hv with rfl | rfl | rfl | rfl | rfl <;> rfl
theorem zI_in {n : Bool} {V : Nat} (h : V < 2 ^ 256) : inR (zI n V) := inR_ab.2 (by rw [ab_zI]; exact h)
theorem InS_in {w : World} {a : Option Addr} {n c : Nat} {S : Nat → Sp} (h : SRow w a n c S) {z : Int} (hz : InS S n z) : inR z := by
  obtain ⟨i, hi, h1, h2⟩ := hz
  have ho := h.o i hi
  have e1 : inR (S i).iv.1 := by
    unfold Sp.iv
    simp only
    split
    · exact zI_in ho.1
    · exact zI_in topN_lt
  have e2 : inR (S i).iv.2 := by
    unfold Sp.iv
    simp only
    split
    · exact zI_in ho.2
    · exact zI_in topN_lt
  exact ⟨Int.le_trans e1.1 h1, Int.le_trans h2 e2.2⟩
/-- is a number in a set, as a Bool -/
noncomputable def hasB (S : Nat → Sp) (n : Nat) (an : Bool) (av : Nat) : Bool := @decide (mayR S n = true ∧ mayI an av = true ∧ InS S n (zI an av)) (Classical.propDecidable _)
theorem hasB_iff {S : Nat → Sp} {n : Nat} {an : Bool} {av : Nat} : hasB S n an av = true ↔ mayR S n = true ∧ mayI an av = true ∧ InS S n (zI an av) := by
  unfold hasB
  exact @decide_eq_true_iff _ (Classical.propDecidable _)
theorem hasB_of {S : Nat → Sp} {n : Nat} {an : Bool} {av : Nat} {r : Bool} (h : HasO S n an av r) : r = hasB S n an av := Bool.eq_iff_iff.2 (h.trans hasB_iff.symm)
theorem hasC {a : Option Addr} {n c : Nat} {S : Nat → Sp} {an : Bool} {av : Nat} (hv : av < 2 ^ 256) {w : World} (h : SRow w a n c S) : Calls Tryz.prog 8 #[.slice a n c, .agg #[.bool (an ), .int .u64 (lm ( av) 0 : Nat), .int .u64 (lm ( av) 1 : Nat), .int .u64 (lm ( av) 2 : Nat), .int .u64 (lm ( av) 3 : Nat)]] w fun e w' => e = .returned (.bool (hasB S n an av)) ∧ Below w.heap.size w w' :=
  (Has_any a n c S an av hv w h).mono fun _ _ ⟨_, he, hr, hb⟩ => ⟨by rw [he, hasB_of hr], hb⟩
theorem hasP {w : World} {a : Option Addr} {n c M : Nat} {S : Nat → Sp} {P : Int → Prop} (h : RowP w a n c S P M) {an : Bool} {av : Nat} (hm : mayI an av = true) : hasB S n an av = true ↔ P (zI an av) := by
  rw [hasB_iff, ← h.set]
  exact ⟨fun x => x.2.2, fun x => ⟨h.may, hm, x⟩⟩
theorem same_row {w : World} {a b : Option Addr} {n c m d M N : Nat} {S T : Nat → Sp} {P Q : Int → Prop} (h1 : RowP w a n c S P M) (h2 : RowP w b m d T Q N) (h : ∀ z, P z ↔ Q z) : Calls Tryz.prog 13 #[.slice a n c, .slice b m d] w fun e w' => e = .returned (.bool true) ∧ Below w.heap.size w w' :=
  (Same_any a n c S b m d T w h1.h h2.h).mono fun _ _ ⟨r, he, hs, hb⟩ => ⟨by rw [he, show r = true from hs.2 ⟨h1.may, h2.may, fun z => by rw [h1.set, h2.set]; exact h z⟩], hb⟩
theorem all_row (w : World) : Calls Tryz.prog 15 #[] w fun e w' => ∃ g : Nat, e = .returned (.slice (some ⟨g, 0, none⟩) 1 1) ∧ RowP w' (some ⟨g, 0, none⟩) 1 1 (fun _ => allS) inR 1 ∧ Below w.heap.size w w' :=
  (All_any w).mono fun _ _ ⟨he, hr, hb⟩ => ⟨_, he, ⟨hr, by rw [mayR_one _ rfl]; decide, Nat.le_refl _, all_in rfl⟩, hb⟩
/-- the numbers that are asked for -/
structure AskI (w3 wr : World) (v : Value) (li : List (Bool × Nat)) : Prop where
  o : wr.ownsRow w3.heap.size 29 5 v li.length (encI li)
  b : Below w3.heap.size w3 wr
  m : ∀ p ∈ li, p.2 < 2 ^ 256
theorem AskI.drop {w3 wr w1 : World} {v : Value} {li : List (Bool × Nat)} (h : AskI w3 wr v li) (hb : Below wr.heap.size wr w1) : AskI w3 w1 v li := by
  refine ⟨⟨h.o.1, ?_⟩, h.b.trans (below_weak hb h.b.size), h.m⟩
  rcases h.o.2 with hn | ⟨g, cap, cur, rfl, hg, hgg, rest⟩
  · exact .inl hn
  · exact .inr ⟨g, cap, cur, rfl, hg, by rw [hb.block g (Array.getElem?_eq_some_iff.1 hgg).1]; exact hgg, rest⟩
theorem AskI.keep {w3 wr wx w2 : World} {m : Nat} {v v' : Value} {li lj : List (Bool × Nat)} {xs : List Value} (h : AskI w3 wr v li) (hb : Below wr.heap.size wr wx) (hm : m = li.length + lj.length) (hx : encI lj = xs) (hl : ∀ p ∈ lj, p.2 < 2 ^ 256)
    (h2 : w2.ownsRow w3.heap.size 29 5 v' m (encI li ++ xs)) (hg : wx.grownBy w2 v.ownBlock) : AskI w3 w2 v' (li ++ lj) := by
  subst hm hx
  have h' := h.drop hb
  exact ⟨by rw [encI_app, List.length_append]; exact h2, h'.b.grown hg h'.b.size (fun k hk => (h.o.lt k hk).1), fun p hp => by
    rcases List.mem_append.1 hp with hp | hp
    · exact h.m p hp
    · exact hl p hp⟩
theorem has_or {w w1 w2 : World} {a b f : Option Addr} {n c m d k g M N K : Nat} {S T : Nat → Sp} {P Q : Int → Prop} {l : List Cl} (X : ResP w f k g l (fun z => P z ∨ Q z) K) (hK : K ≤ 1000) (A : RowP w1 a n c S P M) (B : RowP w2 b m d T Q N) {an : Bool} {av : Nat} (hm : mayI an av = true) : hasB (nthS (l.map opS)) k an av = (hasB S n an av || hasB T m an av) := by
  rw [Bool.eq_iff_iff, Bool.or_eq_true, hasP (X.row hK) hm, hasP A hm, hasP B hm]
theorem has_and {w w1 w2 : World} {a b f : Option Addr} {n c m d k g M N K : Nat} {S T : Nat → Sp} {P Q : Int → Prop} {l : List Cl} (X : ResP w f k g l (fun z => P z ∧ Q z) K) (hK : K ≤ 1000) (A : RowP w1 a n c S P M) (B : RowP w2 b m d T Q N) {an : Bool} {av : Nat} (hm : mayI an av = true) : hasB (nthS (l.map opS)) k an av = (hasB S n an av && hasB T m an av) := by
  rw [Bool.eq_iff_iff, Bool.and_eq_true, hasP (X.row hK) hm, hasP A hm, hasP B hm]
theorem has_not {w w1 : World} {a f : Option Addr} {n c k g M K : Nat} {S : Nat → Sp} {P : Int → Prop} {l : List Cl} (X : ResP w f k g l (fun z => inR z ∧ ¬ P z) K) (hK : K ≤ 1000) (A : RowP w1 a n c S P M) {an : Bool} {av : Nat} (hv : av < 2 ^ 256) (hm : mayI an av = true) : hasB (nthS (l.map opS)) k an av = !hasB S n an av := by
  rw [Bool.eq_iff_iff, Bool.not_eq_true', ← Bool.not_eq_true, hasP (X.row hK) hm, hasP A hm]
  exact ⟨fun h => h.2, fun h => ⟨zI_in hv, h⟩⟩
theorem has_norm {w w1 : World} {a f : Option Addr} {n c k g M K : Nat} {S : Nat → Sp} {P : Int → Prop} {l : List Cl} (X : ResP w f k g l P K) (hK : K ≤ 1000) (A : RowP w1 a n c S P M) {an : Bool} {av : Nat} (hm : mayI an av = true) : hasB (nthS (l.map opS)) k an av = hasB S n an av := by
  rw [Bool.eq_iff_iff, hasP (X.row hK) hm, hasP A hm]
theorem ask_lit {w : World} {nn : Bool} {nv : Nat} : (w.alloc (.cells #[.bool nn, .int .u64 (lm nv 0 : Nat), .int .u64 (lm nv 1 : Nat), .int .u64 (lm nv 2 : Nat), .int .u64 (lm nv 3 : Nat), .bool false, .int .u64 0, .int .u64 0, .int .u64 0, .int .u64 0] 29)).ownsRow w.heap.size 29 5 (.slice (some ⟨w.heap.size, 0, none⟩) 2 2) [(nn, nv), (false, 0)].length (encI [(nn, nv), (false, 0)]) := by
  have h := World.ownsRow_lit (base := w.heap.size) (e := 29) (size := 5) w #[.bool nn, .int .u64 (lm nv 0 : Nat), .int .u64 (lm nv 1 : Nat), .int .u64 (lm nv 2 : Nat), .int .u64 (lm nv 3 : Nat), .bool false, .int .u64 0, .int .u64 0, .int .u64 0, .int .u64 0] 2 (Nat.le_refl _) (by decide) rfl
  have e : encI [(nn, nv), (false, 0)] = [.bool nn, .int .u64 (lm nv 0 : Nat), .int .u64 (lm nv 1 : Nat), .int .u64 (lm nv 2 : Nat), .int .u64 (lm nv 3 : Nat), .bool false, .int .u64 0, .int .u64 0, .int .u64 0, .int .u64 0] := by
    unfold encI cellsI
    simp [lm_zero]
  rw [e]
  exact h
theorem stepU_any (n : Bool) (V : Nat) (hV : V < 2 ^ 256) (w : World) :
    Calls Tryz.prog 43 #[.agg #[.bool (n ), .int .u64 (lm ( V) 0 : Nat), .int .u64 (lm ( V) 1 : Nat), .int .u64 (lm ( V) 2 : Nat), .int .u64 (lm ( V) 3 : Nat)], .bool true] w fun e w' => e = .returned (.tuple #[.agg #[.bool (sg (nx 1 n V) ), .int .u64 (lm ( ab (nx 1 n V)) 0 : Nat), .int .u64 (lm ( ab (nx 1 n V)) 1 : Nat), .int .u64 (lm ( ab (nx 1 n V)) 2 : Nat), .int .u64 (lm ( ab (nx 1 n V)) 3 : Nat)], .bool (nxOk 1 n V)]) ∧ Below w.heap.size w w' := by
  have h := RStep_any n true V hV w
  rw [if_pos rfl] at h
  exact h
theorem row_same {w wr wa : World} {bb off n c k : Nat} {S : Nat → Sp} {a0 a1 a2 a3 a4 a5 a6 a7 a8 a9 b0 b1 : Value} (h : SRow w (some ⟨bb, off, none⟩) n c S) (hk : k < n) (h1 : Below w.heap.size w wr) (h2 : Below w.heap.size w wa) (hr : R12 wr bb (off + k * 12) a0 a1 a2 a3 a4 a5 a6 a7 a8 a9 b0 b1) : R12 wa bb (off + k * 12) a0 a1 a2 a3 a4 a5 a6 a7 a8 a9 b0 b1 := by
  rcases h.c with h0 | ⟨b', o', e, hl, -⟩
  · omega
  · injection e with e
    injection e with e1 _ _
    subst e1
    have hw : ∀ {o : Nat} {v : Value}, wr.cell? ⟨bb, o, none⟩ = some v → wa.cell? ⟨bb, o, none⟩ = some v := fun {o v} hc => by
      rw [h2.cell (p := ⟨bb, o, none⟩) hl, ← h1.cell (p := ⟨bb, o, none⟩) hl]
      exact hc
    obtain ⟨h0, h1, h2, h3, h4, h5, h6, h7, h8, h9, g0, g1⟩ := hr.all
    exact ⟨hw h0, hw h1, hw h2, hw h3, hw h4, hw h5, hw h6, hw h7, hw h8, hw h9, hw g0, hw g1⟩
end Go.Proofs.YtekeedjhaakbhaaGreatDoor
