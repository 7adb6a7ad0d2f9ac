/- From slices.SortFunc's law to the row that the sorted intervals own. · slices.SortFunc of no element, nil. · Plain facts: the numbers of a row of spans, as the intervals of closeAll. · An interval of an owned row, in its cells. · span.open of the program: the spans of a row of closed intervals. · Plain facts: joining, one interval at a time; rows of spans as lists. · Plain facts: rows of spans that stand for a set in its one form. · span.joined of the program: what the loop keeps. -/
import Derived.Test.YtekeedjhaakbhaaGreatDoorCloseA
import Derived.Test.YtekeedjhaakbhaaGreatDoorShelf
import Derived.Laws.OwnMore
namespace Go.Proofs.YtekeedjhaakbhaaGreatDoor
open Go.RowKit Go.Sort Go.Shelf
theorem enc_get (x : Cl) {t : Nat} (h : t < 10) : x.enc[t]? = some (x.enc[t]!) := by
  have h' : t < x.enc.length := h
  rw [List.getElem?_eq_getElem h', getElem!_pos x.enc t h']
theorem encs_get (l : List Cl) : ∀ j, j < l.length * 10 → (encs l)[j]? = some ((l.toArray[j / 10]!).enc[j % 10]!) := by
  induction l with
  | nil => intro j hj; simp at hj
  | cons c t ih =>
    intro j hj
    show (c.enc ++ encs t)[j]? = _
    by_cases h : j < 10
    · rw [List.getElem?_append_left (by rw [enc_len]; exact h), enc_get c h, Nat.div_eq_of_lt h, Nat.mod_eq_of_lt h]
      simp
    · rw [List.getElem?_append_right (by rw [enc_len]; omega), enc_len, ih (j - 10) (by simp only [List.length_cons] at hj; omega)]
      have e1 : j / 10 = (j - 10) / 10 + 1 := by omega
      have e2 : (j - 10) % 10 = j % 10 := by omega
      rw [e1, e2]
      simp
theorem rise_of (l : List Cl) (h : ∀ (i j : Nat) (_ : i < j) (hj : j < l.length), (l[i]).lo ≤ (l[j]).lo) : Rise (l.map Cl.iv) := by
  induction l with
  | nil => trivial
  | cons c t ih =>
    refine ⟨fun d hd => ?_, ih fun i j hi hj => h (i + 1) (j + 1) (by omega) (by simp only [List.length_cons]; omega)⟩
    obtain ⟨x, hx, rfl⟩ := List.mem_map.1 hd
    obtain ⟨j, hj, e⟩ := List.getElem_of_mem hx
    have := h 0 (j + 1) (by omega) (by simp only [List.length_cons]; omega)
    simp only [List.getElem_cons_zero, List.getElem_cons_succ] at this
    rw [e] at this
    exact this
theorem holds_own {wr : World} {B g c : Nat} {T : TypeId} {l : List Cl} (h : wr.ownsRow B T 10 (.slice (some ⟨g, 0, none⟩) l.length c) l.length (encs l)) : HoldsK Cl.enc 10 wr g 0 l.toArray ∧ g < wr.heap.size := by
  rcases h.2 with ⟨e, -⟩ | ⟨g', cap, cur, e, hg, hh, hc, hm, hs, ht⟩
  · cases e
  · injection e with e1 _ _
    injection e1 with e1
    injection e1 with e1 _ _
    subst e1
    refine ⟨fun j hj => ?_, (Array.getElem?_eq_some_iff.1 hh).1⟩
    rw [size_flatK, List.size_toArray] at hj
    have h2 := encs_get l j hj
    rw [← ht, List.getElem?_take, if_pos hj, Array.getElem?_toList] at h2
    refine ⟨?_, ?_⟩
    · simp only [World.cell?, hh, Nat.zero_add]
      rw [get_flatK _ _ _ _ (by rw [List.size_toArray]; exact hj)]
      exact h2
    · simp [World.frozen?, hh]
theorem sorts_of {w wr w' : World} {g c m : Nat} {l : List Cl} {d' : Array Cl} {os : Array Obj} (hw : w.heap.size ≤ wr.heap.size) (h : wr.ownsRow w.heap.size 51 10 (.slice (some ⟨g, 0, none⟩) l.length c) l.length (encs l))
    (hp : PermIn 0 l.toArray.size l.toArray d') (hs : SortedIn (ltOf cfC) 0 l.toArray.size d') (e : w' = sortWorldK Cl.enc 10 wr g 0 m d' os) : SortsTo w wr (.slice (some ⟨g, 0, none⟩) l.length c) l w' := by
  subst e
  obtain ⟨h1, -, h3⟩ := hp
  have h1 : d'.size = l.length := by rw [h1, List.size_toArray]
  rw [List.size_toArray] at h3 hs
  have ed : d'.extract 0 l.length = d' := by rw [← h1]; exact Array.extract_size ..
  have el : l.toArray.extract 0 l.length = l.toArray := by
    have := Array.extract_size (xs := l.toArray)
    rwa [List.size_toArray] at this
  rw [ed, el] at h3
  have hlen : d'.toList.length = l.length := by rw [Array.length_toList]; exact h1
  refine ⟨d'.toList, h3, rise_of _ fun i j hi hj => ?_, ?_, ?_⟩
  · have hj' : j < d'.size := by simpa using hj
    have := hs i j (Nat.zero_le _) hi (by omega)
    rw [ltC, decide_eq_false_iff_not] at this
    rw [getElem!_pos d' j hj', getElem!_pos d' i (by omega)] at this
    simp only [Array.getElem_toList]
    omega
  · rcases h.2 with ⟨e, -⟩ | ⟨g', cap, cur, e, hg, hh, hc, hm, hz, ht⟩
    · cases e
    · injection e with e1 e2 e3
      injection e1 with e1
      injection e1 with e1 _ _
      subst e1 e3
      refine ⟨by rw [encs_len, hlen], .inr ⟨g, c, putCells id 0 (flatK Cl.enc 10 d') cur, rfl, hg, ?_, hc, hm, ?_, ?_⟩⟩
      · have hgl : g < wr.heap.size := (Array.getElem?_eq_some_iff.1 hh).1
        unfold sortWorldK
        rw [heap_grow_old _ _ (by simp [putRowK, hgl])]
        simp only [putRowK, putRow, mapBlock]
        rw [Array.getElem?_modify, if_pos rfl]
        show Option.map _ wr.heap[g]? = _
        rw [hh]
        rfl
      · simp [putCells, hz]
      · apply List.ext_getElem?
        intro t
        by_cases ht' : t < l.length * 10
        · have h2 := encs_get d'.toList t (by rw [hlen]; exact ht')
          rw [h2, List.getElem?_take, if_pos ht', Array.getElem?_toList]
          have hcu : t < cur.size := by rw [hz]; exact Nat.lt_of_lt_of_le ht' (Nat.mul_le_mul_right _ hc)
          simp only [putCells, Array.getElem?_mapIdx, Array.getElem?_eq_getElem hcu, Option.map_some]
          rw [if_pos (by rw [size_flatK, h1]; omega), Nat.sub_zero, get_flatK _ _ _ _ (by rw [h1]; exact ht')]
          rfl
        · rw [List.getElem?_take, if_neg ht', List.getElem?_eq_none (by rw [encs_len, hlen]; omega)]
  · have hgb := (h.lt g rfl).1
    refine ⟨rfl, rfl, rfl, by simp [sortWorldK, putRowK, grow], fun k hk => ?_⟩
    unfold sortWorldK
    rw [heap_grow_old _ _ (by simp [putRowK]; omega)]
    simp only [putRowK, putRow, mapBlock]
    rw [Array.getElem?_modify, if_neg (by omega)]
    rfl
end Go.Proofs.YtekeedjhaakbhaaGreatDoor

namespace Go.Proofs.YtekeedjhaakbhaaGreatDoor
open Go.RowKit
set_option maxRecDepth 20000 in
set_option maxHeartbeats 1600000 in
theorem insNil (f : Value) (w : World) : Calls Tryz.prog 80 #[.slice none 0 0, .int .i64 0, .int .i64 0, f] w fun e w' => e = .returned (.tuple #[]) ∧ Below w.heap.size w w' := by
  go_enter Tryz.func80, Tryz.ntmps80
  repeat any_goals (first | go_skip | go_guarded | go_step | go_upon | (simp only []; done))
  go_loopw [8] (fun i wr => i = .int .i64 1 ∧ Below w.heap.size w wr) (fun _ _ => 0)
  case atStart => exact ⟨rfl, by (repeat first | with_reducible exact Below.refl _ _ | with_reducible assumption | with_reducible refine Below.drew ?_ | with_reducible refine below_alloc ?_ _ | ((with_reducible refine Below.setCell ?_ ?_ _); rotate_left; (focus (first | with_reducible exact Nat.le_refl _ | (simp; done) | (simp; omega) | omega))) | (with_reducible refine below_trans ?_ (by assumption)))⟩
  case round =>
    obtain ⟨rfl, hW⟩ := hrel
    repeat any_goals (first | go_skip | go_guarded | go_step | go_upon | (simp only []; done))
    exact bodyPost_end (v := .tuple #[]) (by simp [results, Tryz.results80, go_sem]) rfl ⟨rfl, hW⟩
set_option maxRecDepth 20000 in
set_option maxHeartbeats 1600000 in
theorem pdqNil (f : Value) (z : Int) (w : World) : Calls Tryz.prog 70 #[.slice none 0 0, .int .i64 0, .int .i64 0, .int .i64 z, f] w fun e w' => e = .returned (.tuple #[]) ∧ Below w.heap.size w w' := by
  go_enter Tryz.func70, Tryz.ntmps70
  repeat any_goals (first | go_skip | go_guarded | go_step | go_upon | (simp only []; done))
  go_loopw [1, 2] (fun i j wr => i = .int .i64 0 ∧ j = .int .i64 0 ∧ Below w.heap.size w wr) (fun _ _ _ => 0)
  case atStart => exact ⟨rfl, rfl, by (repeat first | with_reducible exact Below.refl _ _ | with_reducible assumption | with_reducible refine Below.drew ?_ | with_reducible refine below_alloc ?_ _ | ((with_reducible refine Below.setCell ?_ ?_ _); rotate_left; (focus (first | with_reducible exact Nat.le_refl _ | (simp; done) | (simp; omega) | omega))) | (with_reducible refine below_trans ?_ (by assumption)))⟩
  case round =>
    obtain ⟨rfl, rfl, hW⟩ := hrel
    repeat any_goals (first | (go_at_call 80; refine (insNil _ _).mono ?_; rintro e w1 ⟨rfl, hb1⟩; dsimp only []) | go_skip | go_guarded | go_step | go_upon | (dsimp only []))
    exact bodyPost_ret (v := .tuple #[]) (by simp [results, Tryz.results70, go_sem]) rfl ⟨rfl, below_trans hW hb1⟩
set_option maxRecDepth 20000 in
set_option maxHeartbeats 1600000 in
theorem sortNil (f : Value) (w : World) : Calls Tryz.prog 55 #[.slice none 0 0, f] w fun e w' => e = .returned (.tuple #[]) ∧ Below w.heap.size w w' := by
  have L := Lib.hid fun w => Tryz.bits_Len 0 w (by omega) (by omega)
  have PQ := Lib.hid fun (z : Int) w => pdqNil f z w
  go_enter Tryz.func55, Tryz.ntmps55
  repeat any_goals (first | (go_at_call 71; refine (L.out _).mono ?_; rintro e w1 ⟨rfl, hw⟩; subst w1; dsimp only []) | (go_at_call 70; refine (PQ.out _ _).mono ?_; rintro e w1 ⟨rfl, hb1⟩; dsimp only []) | go_skip | go_guarded | go_step | go_upon | (dsimp only []))
  exact bodyPost_end (v := .tuple #[]) (by simp [results, Tryz.results55, go_sem]) rfl ⟨rfl, by (repeat first | with_reducible exact Below.refl _ _ | with_reducible assumption | with_reducible refine Below.drew ?_ | with_reducible refine below_alloc ?_ _ | ((with_reducible refine Below.setCell ?_ ?_ _); rotate_left; (focus (first | with_reducible exact Nat.le_refl _ | (simp; done) | (simp; omega) | omega))) | (with_reducible refine below_trans ?_ (by assumption)))⟩
/-- what closeAll and Either ask of the sorting -/
theorem sortTo_any (w wr : World) (v : Value) (l : List Cl) (hw : w.heap.size ≤ wr.heap.size) (hl : l.length < 4611686018427387904) (h : wr.ownsRow w.heap.size 51 10 v l.length (encs l)) :
    Calls Tryz.prog 55 #[v, .func (.func 56) #[] #[]] wr fun e w' => e = .returned (.tuple #[]) ∧ SortsTo w wr v l w' := by
  rcases h.2 with ⟨rfl, h0⟩ | ⟨g, cap, cur, rfl, -⟩
  · have e : l = [] := List.length_eq_zero_iff.1 h0
    subst e
    exact (sortNil _ wr).mono fun _ _ ⟨he, hb⟩ => ⟨he, [], List.Perm.refl _, trivial, World.ownsRow_nil _ _ _ _, below_weak hb hw⟩
  · obtain ⟨h1, h2⟩ := holds_own h
    exact (sort_any g 0 cap l.toArray wr h1 h2 (by rw [List.size_toArray]; exact hl)).mono fun _ _ ⟨he, d', n, os, hp, hs, e⟩ => ⟨he, sorts_of hw h hp hs e⟩
/-- **closeAll.** -/
theorem closeAll_any (a : Option Addr) (n c : Nat) (S : Nat → Sp) (w : World) (h : SRow w a n c S) (hn : n ≤ 1000000) (hM : ∀ i, i < n → mayI (S i).nl (S i).vl = true ∧ mayI (S i).nh (S i).vh = true) :
    Calls Tryz.prog 25 #[.slice a n c] w fun e w' => ∃ v l, e = .returned v ∧ (∃ l0 : List Cl, l0.map Cl.iv = ivs S n ∧ l.Perm l0) ∧ Rise (l.map Cl.iv) ∧ w'.ownsRow w.heap.size 51 10 v l.length (encs l) ∧ Below w.heap.size w w' :=
  closeA_walk a n c S w h hn hM (Lib.hid fun wr v l hw hl ho => sortTo_any w wr v l hw (by omega) ho)
end Go.Proofs.YtekeedjhaakbhaaGreatDoor

namespace Go.Proofs.YtekeedjhaakbhaaGreatDoor
/-- a number is in one of the first n spans -/
def InS (S : Nat → Sp) (n : Nat) (z : Int) : Prop := ∃ i, i < n ∧ (S i).iv.1 ≤ z ∧ z ≤ (S i).iv.2
theorem ivs_mem (S : Nat → Sp) (z : Int) : ∀ n, MemL (ivs S n) z ↔ InS S n z := by
  intro n
  induction n with
  | zero => exact ⟨fun h => absurd h (MemL_nil z), fun ⟨i, hi, _⟩ => by omega⟩
  | succ n ih =>
    simp only [ivs]
    rw [MemL_append, ih]
    constructor
    · rintro (⟨i, hi, h⟩ | h)
      · exact ⟨i, by omega, h⟩
      · by_cases c : (S n).iv.1 ≤ (S n).iv.2
        · rw [if_pos c, MemL_cons] at h
          rcases h with h | h
          · exact ⟨n, by omega, h⟩
          · exact absurd h (MemL_nil z)
        · rw [if_neg c] at h
          exact absurd h (MemL_nil z)
    · rintro ⟨i, hi, h⟩
      by_cases e : i = n
      · subst e
        refine .inr ?_
        rw [if_pos (by omega), MemL_cons]
        exact .inl h
      · exact .inl ⟨i, by omega, h⟩
theorem ivs_ok (S : Nat → Sp) : ∀ n, ∀ c ∈ ivs S n, c.1 ≤ c.2 := by
  intro n
  induction n with
  | zero => intro c hc; cases hc
  | succ n ih =>
    intro c hc
    simp only [ivs] at hc
    rcases List.mem_append.1 hc with h | h
    · exact ih c h
    · by_cases d : (S n).iv.1 ≤ (S n).iv.2
      · rw [if_pos d] at h
        rw [List.mem_singleton.1 h]
        exact d
      · rw [if_neg d] at h
        cases h
/-- what closeAll hands on, as a set: rising, not empty, the same numbers -/
theorem closed_spec {S : Nat → Sp} {n : Nat} {l l0 : List Cl} (h0 : l0.map Cl.iv = ivs S n) (hp : l.Perm l0) : (∀ c ∈ l.map Cl.iv, c.1 ≤ c.2) ∧ ∀ z, MemL (l.map Cl.iv) z ↔ InS S n z := by
  have hp' : (l.map Cl.iv).Perm (ivs S n) := by rw [← h0]; exact hp.map _
  exact ⟨fun c hc => ivs_ok S n c (hp'.mem_iff.1 hc), fun z => (MemL_perm hp').trans (ivs_mem S z n)⟩
end Go.Proofs.YtekeedjhaakbhaaGreatDoor

namespace Go.Proofs.YtekeedjhaakbhaaGreatDoor
open Go.RowKit Go.Sort Go.Shelf
/-- ten cells of a block, from an offset on -/
structure R10 (w : World) (B o : Nat) (n : Bool) (V : Nat) (m : Bool) (U : Nat) : Prop where
  all : w.cell? ⟨B, o, none⟩ = some (.bool n) ∧ w.cell? ⟨B, o + 1, none⟩ = some (.int .u64 (lm V 0 : Nat)) ∧ w.cell? ⟨B, o + 2, none⟩ = some (.int .u64 (lm V 1 : Nat)) ∧ w.cell? ⟨B, o + 3, none⟩ = some (.int .u64 (lm V 2 : Nat)) ∧ w.cell? ⟨B, o + 4, none⟩ = some (.int .u64 (lm V 3 : Nat)) ∧ w.cell? ⟨B, o + 5, none⟩ = some (.bool m) ∧ w.cell? ⟨B, o + 6, none⟩ = some (.int .u64 (lm U 0 : Nat)) ∧ w.cell? ⟨B, o + 7, none⟩ = some (.int .u64 (lm U 1 : Nat)) ∧ w.cell? ⟨B, o + 8, none⟩ = some (.int .u64 (lm U 2 : Nat)) ∧ w.cell? ⟨B, o + 9, none⟩ = some (.int .u64 (lm U 3 : Nat))
theorem R10.below {w1 w2 : World} {B o : Nat} {n m : Bool} {V U : Nat} (h : R10 w1 B o n V m U) (hb : Below w1.heap.size w1 w2) : R10 w2 B o n V m U := by
  obtain ⟨h0, h1, h2, h3, h4, h5, h6, h7, h8, h9⟩ := h.all
  exact ⟨keep_cell hb h0, keep_cell hb h1, keep_cell hb h2, keep_cell hb h3, keep_cell hb h4, keep_cell hb h5, keep_cell hb h6, keep_cell hb h7, keep_cell hb h8, keep_cell hb h9⟩
theorem cl_lit {w wr : World} {B T i : Nat} {v : Value} {l : List Cl} (h : w.ownsRow B T 10 v l.length (encs l)) (hi : i < l.length) (hb : Below w.heap.size w wr) :
    ∃ (g cap : Nat) (x : Cl), v = .slice (some ⟨g, 0, none⟩) l.length cap ∧ g < wr.heap.size ∧ l[i]? = some x ∧ l.length ≤ cap ∧ cap ≤ maxLen ∧ R10 wr g (i * 10) (sg x.lo) (ab x.lo) (sg x.hi) (ab x.hi) := by
  rcases h.2 with ⟨-, h0⟩ | ⟨g, cap, cur, rfl, -, -, hc, hm, -⟩
  · omega
  · obtain ⟨h1, h2⟩ := holds_own h
    have hx : l.toArray[i]! = l[i] := by simp [hi]
    have hw : ∀ j, j < 10 → wr.cell? ⟨g, i * 10 + j, none⟩ = some ((l[i]).enc[j]!) := fun j hj => by
      rw [hb.cell (p := ⟨g, i * 10 + j, none⟩) h2, ← hx]
      have := (h1.cell (i := i) (c := j) (by rw [List.size_toArray]; exact hi) hj).1
      rwa [Nat.zero_add] at this
    exact ⟨g, cap, l[i], rfl, Nat.lt_of_lt_of_le h2 hb.size, List.getElem?_eq_getElem hi, hc, hm, ⟨⟨hw 0 (by omega), hw 1 (by omega), hw 2 (by omega), hw 3 (by omega), hw 4 (by omega), hw 5 (by omega), hw 6 (by omega), hw 7 (by omega), hw 8 (by omega), hw 9 (by omega)⟩⟩⟩
end Go.Proofs.YtekeedjhaakbhaaGreatDoor

namespace Go.Proofs.YtekeedjhaakbhaaGreatDoor
open Go.RowKit
def opS (x : Cl) : Sp := ⟨!(sg x.lo == true && ab x.lo == topN), !(sg x.hi == false && ab x.hi == topN), if sg x.lo = true ∧ ab x.lo = topN then false else sg x.lo, if sg x.lo = true ∧ ab x.lo = topN then 0 else ab x.lo, if sg x.hi = false ∧ ab x.hi = topN then false else sg x.hi, if sg x.hi = false ∧ ab x.hi = topN then 0 else ab x.hi⟩
def encS (l : List Sp) : List Value := l.flatMap Sp.cells
/-- what the loop of open keeps -/
structure OpenI (w wr : World) (E : Nat) (v : Value) (ks : List Sp) : Prop where
  o : wr.ownsRow (E + 1 + 1) 37 12 v ks.length (encS ks)
  e : EK wr E
  b : Below w.heap.size w wr
  l : w.heap.size ≤ E ∧ E + 1 + 1 ≤ wr.heap.size
theorem OpenI.drop {w wr w1 : World} {E : Nat} {v : Value} {ks : List Sp} (h : OpenI w wr E v ks) (hb : Below wr.heap.size wr w1) : OpenI w w1 E v ks := by
  have := h.l
  have := hb.size
  exact ⟨own_below h.o hb, h.e.below (below_weak hb (by omega)), h.b.trans (below_weak hb (by omega)), by omega, by omega⟩
theorem OpenI.keep {w w1 w2 : World} {E m : Nat} {v v' : Value} {ks : List Sp} {x : Sp} {ob : Obj} (h : OpenI w w1 E v ks) (hm : m = ks.length + 1)
    (h2 : w2.ownsRow (E + 1 + 1) 37 12 v' m (encS ks ++ x.cells)) (hg : (w1.alloc ob).grownBy w2 v.ownBlock) : OpenI w w2 E v' (ks ++ [x]) := by
  subst hm
  have hs := hg.size
  simp only [World.size_alloc] at hs
  have hle := h.l
  have B2 : Below (E + 1 + 1) w1 w2 := ((Below.refl (E + 1 + 1) w1).alloc (by omega) ob).grown hg (by simp only [World.size_alloc]; omega) (fun k hk => (h.o.lt _ hk).1)
  refine ⟨?_, h.e.below B2, h.b.trans (below_weak B2 (by omega)), by omega, by omega⟩
  have e : encS (ks ++ [x]) = encS ks ++ x.cells := by unfold encS; rw [List.flatMap_append]; simp
  rw [e, List.length_append]
  exact h2
theorem infoS : (Tryz.prog.info? 37).map (fun i => (i.zero, i.size, i.bytes)) = some (some (.agg #[.bool false, .bool false, .bool false, .int .u64 0, .int .u64 0, .int .u64 0, .int .u64 0, .bool false, .int .u64 0, .int .u64 0, .int .u64 0, .int .u64 0]), 12, 88) := by kernel_rfl

end Go.Proofs.YtekeedjhaakbhaaGreatDoor

namespace Go.Proofs.YtekeedjhaakbhaaGreatDoor
open Go.RowKit
def Cl.upTo (y x : Cl) : Cl := ⟨y.lo, if y.hi < x.hi then x.hi else y.hi, y.hl, by split; exact x.hh; exact y.hh⟩
def stepJ (ks : List Cl) (x : Cl) : List Cl := match ks.getLast? with
  | none => [x]
  | some y => if x.lo ≤ y.hi + 1 then ks.dropLast ++ [y.upTo x] else ks ++ [x]
theorem stepJ_app (ks : List Cl) (y x : Cl) : stepJ (ks ++ [y]) x = if x.lo ≤ y.hi + 1 then ks ++ [y.upTo x] else (ks ++ [y]) ++ [x] := by
  unfold stepJ
  rw [List.getLast?_concat]
  simp only [List.dropLast_concat]
def joinK (l : List Cl) : List Cl := l.foldl stepJ []
theorem fold_join : ∀ (l ks : List Cl) (y : Cl), (l.foldl stepJ (ks ++ [y])).map Cl.iv = ks.map Cl.iv ++ joinC y.iv (l.map Cl.iv) := by
  intro l
  induction l with
  | nil => intro ks y; simp [joinC]
  | cons x t ih =>
    intro ks y
    rw [List.foldl_cons, stepJ_app, List.map_cons, joinC]
    by_cases c : x.lo ≤ y.hi + 1
    · rw [if_pos c, if_pos (show x.iv.1 ≤ y.iv.2 + 1 from c), ih]
      rfl
    · rw [if_neg c, if_neg (show ¬ x.iv.1 ≤ y.iv.2 + 1 from c), ih, List.map_append]
      simp
theorem joinK_iv (l : List Cl) : (joinK l).map Cl.iv = joinL (l.map Cl.iv) := by
  cases l with
  | nil => rfl
  | cons c t => exact fold_join t [] c
theorem stepJ_len (ks : List Cl) (x : Cl) : (stepJ ks x).length ≤ ks.length + 1 := by
  rcases List.eq_nil_or_concat ks with rfl | ⟨l, y, rfl⟩
  · exact Nat.le_refl _
  · rw [List.concat_eq_append, stepJ_app]
    split <;> simp <;> omega
theorem foldJ_len : ∀ (l ks : List Cl), (l.foldl stepJ ks).length ≤ ks.length + l.length := by
  intro l
  induction l with
  | nil => intro ks; exact Nat.le_refl _
  | cons x t ih =>
    intro ks
    have := ih (stepJ ks x)
    have := stepJ_len ks x
    rw [List.foldl_cons, List.length_cons]
    omega
end Go.Proofs.YtekeedjhaakbhaaGreatDoor

namespace Go.Proofs.YtekeedjhaakbhaaGreatDoor
open Go.RowKit
def nthS (l : List Sp) (i : Nat) : Sp := l.getD i ⟨false, false, false, 0, false, 0⟩
theorem opS_iv (x : Cl) : (opS x).iv = x.iv := by
  have h1 : (if (!(sg x.lo == true && ab x.lo == topN)) = true then zI (if sg x.lo = true ∧ ab x.lo = topN then false else sg x.lo) (if sg x.lo = true ∧ ab x.lo = topN then 0 else ab x.lo) else zI true topN) = x.lo := by
    by_cases c : sg x.lo = true ∧ ab x.lo = topN
    · have e := zI_sg x.lo
      rw [c.1, c.2] at e
      simp [c.1, c.2, e]
    · have d : (sg x.lo == true && ab x.lo == topN) = false := by
        rw [← Bool.not_eq_true]
        simpa using c
      rw [if_neg c, if_neg c, d]
      exact zI_sg x.lo
  have h2 : (if (!(sg x.hi == false && ab x.hi == topN)) = true then zI (if sg x.hi = false ∧ ab x.hi = topN then false else sg x.hi) (if sg x.hi = false ∧ ab x.hi = topN then 0 else ab x.hi) else zI false topN) = x.hi := by
    by_cases c : sg x.hi = false ∧ ab x.hi = topN
    · have e := zI_sg x.hi
      rw [c.1, c.2] at e
      simp [c.1, c.2, e]
    · have d : (sg x.hi == false && ab x.hi == topN) = false := by
        rw [← Bool.not_eq_true]
        simpa using c
      rw [if_neg c, if_neg c, d]
      exact zI_sg x.hi
  exact Prod.ext h1 h2
theorem opS_may (x : Cl) : mayS (opS x) = true := by
  have h1 : mayI (opS x).nl (opS x).vl = true ∧ ((opS x).hl || (!(opS x).nl && (opS x).vl == 0)) = true := by
    unfold opS
    by_cases c : sg x.lo = true ∧ ab x.lo = topN
    · simp only [if_pos c]
      exact ⟨rfl, by simp⟩
    · have d : (sg x.lo == true && ab x.lo == topN) = false := by
        rw [← Bool.not_eq_true]
        simpa using c
      simp only [if_neg c, d]
      exact ⟨mayI_sg _, rfl⟩
  have h2 : mayI (opS x).nh (opS x).vh = true ∧ ((opS x).hh || (!(opS x).nh && (opS x).vh == 0)) = true := by
    unfold opS
    by_cases c : sg x.hi = false ∧ ab x.hi = topN
    · simp only [if_pos c]
      exact ⟨rfl, by simp⟩
    · have d : (sg x.hi == false && ab x.hi == topN) = false := by
        rw [← Bool.not_eq_true]
        simpa using c
      simp only [if_neg c, d]
      exact ⟨mayI_sg _, rfl⟩
  unfold mayS
  rw [h1.1, h1.2, h2.1, h2.2]
  rfl
theorem opS_lt (x : Cl) : (opS x).vl < 2 ^ 256 ∧ (opS x).vh < 2 ^ 256 := by
  unfold opS
  refine ⟨?_, ?_⟩
  · show (if sg x.lo = true ∧ ab x.lo = topN then 0 else ab x.lo) < 2 ^ 256
    split
    · exact Nat.two_pow_pos _
    · exact x.hl
  · show (if sg x.hi = false ∧ ab x.hi = topN then 0 else ab x.hi) < 2 ^ 256
    split
    · exact Nat.two_pow_pos _
    · exact x.hh
theorem nth_app (l : List Sp) (s : Sp) (i : Nat) : nthS (l ++ [s]) i = if i < l.length then nthS l i else if i = l.length then s else ⟨false, false, false, 0, false, 0⟩ := by
  unfold nthS
  rw [List.getD_eq_getElem?_getD, List.getD_eq_getElem?_getD]
  by_cases c : i < l.length
  · rw [if_pos c, List.getElem?_append_left c]
  · rw [if_neg c, List.getElem?_append_right (by omega)]
    by_cases d : i = l.length
    · subst d
      simp
    · rw [if_neg d, List.getElem?_eq_none (by simp; omega)]
      rfl
theorem ivs_congr {S T : Nat → Sp} : ∀ n, (∀ i, i < n → S i = T i) → ivs S n = ivs T n := by
  intro n
  induction n with
  | zero => intro _; rfl
  | succ n ih =>
    intro h
    simp only [ivs]
    rw [ih fun i hi => h i (by omega), h n (by omega)]
theorem InS_congr {S T : Nat → Sp} {n : Nat} (h : ∀ i, i < n → S i = T i) (z : Int) : InS S n z ↔ InS T n z := by
  rw [← ivs_mem, ← ivs_mem, ivs_congr n h]
theorem nth_get {l : List Sp} {i : Nat} (h : i < l.length) : l[i]? = some (nthS l i) := by
  unfold nthS
  rw [List.getD_eq_getElem?_getD, List.getElem?_eq_getElem h]
  rfl
theorem nth_map {l : List Cl} {i : Nat} (h : i < l.length) : nthS (l.map opS) i = opS l[i] := by
  unfold nthS
  rw [List.getD_eq_getElem?_getD, List.getElem?_map, List.getElem?_eq_getElem h]
  rfl
theorem InS_nth (l : List Cl) (z : Int) : InS (nthS (l.map opS)) l.length z ↔ MemL (l.map Cl.iv) z := by
  constructor
  · rintro ⟨i, hi, h1, h2⟩
    rw [nth_map hi, opS_iv] at h1 h2
    exact ⟨l[i].iv, List.mem_map.2 ⟨_, List.getElem_mem hi, rfl⟩, h1, h2⟩
  · rintro ⟨c, hc, h1, h2⟩
    obtain ⟨x, hx, rfl⟩ := List.mem_map.1 hc
    obtain ⟨i, hi⟩ := List.getElem?_of_mem hx
    obtain ⟨hi2, rfl⟩ := List.getElem?_eq_some_iff.1 hi
    exact ⟨i, hi2, by rw [nth_map hi2, opS_iv]; exact h1, by rw [nth_map hi2, opS_iv]; exact h2⟩
theorem encS_len (l : List Sp) : (encS l).length = l.length * 12 := by
  induction l with
  | nil => rfl
  | cons c t ih =>
    show (c.cells ++ encS t).length = _
    rw [List.length_append, ih, List.length_cons, show c.cells.length = 12 from rfl]
    omega
theorem encS_get : ∀ (l : List Sp) (i j : Nat), i < l.length → j < 12 → (encS l)[i * 12 + j]? = (nthS l i).cells[j]? := by
  intro l
  induction l with
  | nil => intro i j hi; exact absurd hi (Nat.not_lt_zero _)
  | cons c t ih =>
    intro i j hi hj
    show (c.cells ++ encS t)[i * 12 + j]? = _
    have hc : c.cells.length = 12 := rfl
    cases i with
    | zero =>
      rw [Nat.zero_mul, Nat.zero_add, List.getElem?_append_left (by omega)]
      rfl
    | succ i =>
      rw [List.getElem?_append_right (by omega), hc, show (i + 1) * 12 + j - 12 = i * 12 + j by omega]
      exact ih i j (by simpa using hi) hj
/-- an owned row of spans, as an argument -/
theorem own_row {w : World} {B : Nat} {v : Value} {l : List Sp} (h : w.ownsRow B 37 12 v l.length (encS l)) (ho : ∀ s ∈ l, s.vl < 2 ^ 256 ∧ s.vh < 2 ^ 256) :
    ∃ a c, v = .slice a l.length c ∧ SRow w a l.length c (nthS l) := by
  have ho' : ∀ i, i < l.length → (nthS l i).vl < 2 ^ 256 ∧ (nthS l i).vh < 2 ^ 256 := fun i hi => by
    have := nth_get hi
    exact ho _ (List.mem_of_getElem? this)
  rcases h.2 with ⟨rfl, h0⟩ | ⟨g, cap, cur, rfl, hB, hg, hc, hm, -⟩
  · rw [h0]
    exact ⟨none, 0, rfl, Nat.le_refl _, Nat.zero_le _, .inl rfl, fun i hi => by omega⟩
  · refine ⟨some ⟨g, 0, none⟩, cap, rfl, hc, hm, .inr ⟨g, 0, rfl, (Array.getElem?_eq_some_iff.1 hg).1, fun i hi j hj => ?_⟩, ho'⟩
    rw [Nat.zero_add, h.cellAt (i * 12 + j) (by omega)]
    exact encS_get l i j hi hj
/-- the list stands for the set, in the one form -/
structure SetF (l : List Cl) (P : Int → Prop) : Prop where
  nf : NF (l.map Cl.iv)
  mem : ∀ z, MemL (l.map Cl.iv) z ↔ P z
theorem iv_inj {x y : Cl} (h : x.iv = y.iv) : x = y := by
  obtain ⟨a, b, _, _⟩ := x
  obtain ⟨c, d, _, _⟩ := y
  have h1 : a = c := congrArg Prod.fst h
  have h2 : b = d := congrArg Prod.snd h
  subst h1 h2
  rfl
theorem map_iv_inj : ∀ {l m : List Cl}, l.map Cl.iv = m.map Cl.iv → l = m := by
  intro l
  induction l with
  | nil =>
    intro m h
    cases m with
    | nil => rfl
    | cons _ _ => cases h
  | cons x t ih =>
    intro m h
    cases m with
    | nil => cases h
    | cons y s =>
      rw [List.map_cons, List.map_cons, List.cons.injEq] at h
      rw [iv_inj h.1, ih h.2]
theorem SetF.unique {l m : List Cl} {P Q : Int → Prop} (hl : SetF l P) (hm : SetF m Q) (h : ∀ z, P z ↔ Q z) : l = m :=
  map_iv_inj (NF_unique hl.nf hm.nf fun z => (hl.mem z).trans ((h z).trans (hm.mem z).symm))
theorem NF_ok : ∀ {l : List Iv}, NF l → ∀ c ∈ l, c.1 ≤ c.2 := by
  intro l
  induction l with
  | nil => intro _ c hc; cases hc
  | cons d t ih =>
    intro h c hc
    rcases List.mem_cons.1 hc with rfl | hc
    · exact h.1
    · exact ih h.tail c hc
theorem SetF.congr {l : List Cl} {P Q : Int → Prop} (hl : SetF l P) (h : ∀ z, P z ↔ Q z) : SetF l Q := ⟨hl.nf, fun z => (hl.mem z).trans (h z)⟩
theorem SetF.nil {P : Int → Prop} (h : ∀ z, ¬ P z) : SetF [] P := ⟨trivial, fun z => ⟨fun c => absurd c (MemL_nil z), fun c => absurd c (h z)⟩⟩
/-- joined: from a rising row to the one form -/
theorem joinK_set {l : List Cl} {P : Int → Prop} (h1 : ∀ c ∈ l.map Cl.iv, c.1 ≤ c.2) (h2 : Rise (l.map Cl.iv)) (h3 : ∀ z, MemL (l.map Cl.iv) z ↔ P z) : SetF (joinK l) P := by
  have h := joinL_spec h1 h2
  rw [← joinK_iv] at h
  exact ⟨h.1, fun z => (h.2 z).trans (h3 z)⟩
end Go.Proofs.YtekeedjhaakbhaaGreatDoor

namespace Go.Proofs.YtekeedjhaakbhaaGreatDoor
open Go.RowKit
structure JoinI (w wr : World) (v : Value) (ks : List Cl) : Prop where
  o : wr.ownsRow w.heap.size 51 10 v ks.length (encs ks)
  b : Below w.heap.size w wr
theorem JoinI.drop {w wr w1 : World} {v : Value} {ks : List Cl} (h : JoinI w wr v ks) (hb : Below wr.heap.size wr w1) : JoinI w w1 v ks :=
  ⟨own_below h.o hb, h.b.trans (below_weak hb h.b.size)⟩
theorem JoinI.keep {w w1 w2 : World} {m : Nat} {v v' : Value} {ks : List Cl} {x : Cl} {ob : Obj} (h : JoinI w w1 v ks) (hm : m = ks.length + 1)
    (h2 : w2.ownsRow w.heap.size 51 10 v' m (encs ks ++ x.enc)) (hg : (w1.alloc ob).grownBy w2 v.ownBlock) : JoinI w w2 v' (ks ++ [x]) := by
  subst hm
  have hs := h.b.size
  have B2 : Below w.heap.size w w2 := (h.b.alloc (by omega) ob).grown hg (by simp only [World.size_alloc]; omega) (fun k hk => (h.o.lt _ hk).1)
  have e : encs (ks ++ [x]) = encs ks ++ x.enc := by unfold encs; rw [List.flatMap_append]; simp
  refine ⟨?_, B2⟩
  rw [e, List.length_append]
  exact h2
theorem encs_app (ks : List Cl) (x : Cl) : encs (ks ++ [x]) = encs ks ++ x.enc := by unfold encs; rw [List.flatMap_append]; simp
theorem set5_app {α : Type} (a b : List α) (n : Nat) (hn : a.length = n) (v0 v1 v2 v3 v4 : α) :
    (((((a ++ b).set (n + 5) v0).set (n + 6) v1).set (n + 7) v2).set (n + 8) v3).set (n + 9) v4 = a ++ (((((b.set 5 v0).set 6 v1).set 7 v2).set 8 v3).set 9 v4) := by
  subst hn
  simp [List.set_append_right]
theorem JoinI.put {w wr : World} {g n cap m : Nat} {ks : List Cl} {y x : Cl} (h : JoinI w wr (.slice (some ⟨g, 0, none⟩) n cap) (ks ++ [y])) (hm : m = ks.length) (hn : n = m + 1) (hx : y.hi < x.hi) :
    JoinI w (((((wr.setCell ⟨g, m * 10 + 5, none⟩ (.bool (sg x.hi))).setCell ⟨g, m * 10 + 6, none⟩ (.int .u64 (lm (ab x.hi) 0 : Nat))).setCell ⟨g, m * 10 + 7, none⟩ (.int .u64 (lm (ab x.hi) 1 : Nat))).setCell ⟨g, m * 10 + 8, none⟩ (.int .u64 (lm (ab x.hi) 2 : Nat))).setCell ⟨g, m * 10 + 9, none⟩ (.int .u64 (lm (ab x.hi) 3 : Nat)))
      (.slice (some ⟨g, 0, none⟩) n cap) (ks ++ [y.upTo x]) := by
  subst hm hn
  have hg : w.heap.size ≤ g := (h.o.lt g rfl).1
  have ho := h.o
  rw [List.length_append, encs_app] at ho
  obtain ⟨o1, g1⟩ := ho.stored (ks.length * 10 + 5) (.bool (sg x.hi))
  obtain ⟨o2, g2⟩ := o1.stored (ks.length * 10 + 6) (.int .u64 (lm (ab x.hi) 0 : Nat))
  obtain ⟨o3, g3⟩ := o2.stored (ks.length * 10 + 7) (.int .u64 (lm (ab x.hi) 1 : Nat))
  obtain ⟨o4, g4⟩ := o3.stored (ks.length * 10 + 8) (.int .u64 (lm (ab x.hi) 2 : Nat))
  obtain ⟨o5, g5⟩ := o4.stored (ks.length * 10 + 9) (.int .u64 (lm (ab x.hi) 3 : Nat))
  rw [set5_app _ _ _ (encs_len ks)] at o5
  refine ⟨?_, ?_⟩
  · rw [List.length_append, encs_app]
    have e : (y.upTo x).enc = ((((y.enc.set 5 (.bool (sg x.hi))).set 6 (.int .u64 (lm (ab x.hi) 0 : Nat))).set 7 (.int .u64 (lm (ab x.hi) 1 : Nat))).set 8 (.int .u64 (lm (ab x.hi) 2 : Nat))).set 9 (.int .u64 (lm (ab x.hi) 3 : Nat)) := by
      have e1 : (y.upTo x).hi = x.hi := if_pos hx
      unfold Cl.enc
      rw [e1]
      rfl
    rw [e]
    exact o5
  · have hs := h.b.size
    have s0 : wr.heap.size = (wr.setCell ⟨g, ks.length * 10 + 5, none⟩ (.bool (sg x.hi))).heap.size := (World.size_setCell _ _ _).symm
    exact ((((h.b.grown g1 hs (fun k hk => by cases hk; exact hg)).grown g2 (by simp; omega) (fun k hk => by cases hk; exact hg)).grown g3 (by simp; omega) (fun k hk => by cases hk; exact hg)).grown g4 (by simp; omega) (fun k hk => by cases hk; exact hg)).grown g5 (by simp; omega) (fun k hk => by cases hk; exact hg)
/-- the last of a row, in its cells -/
theorem last_lit {w wr : World} {B T : Nat} {v : Value} {ks : List Cl} {y : Cl} {m : Nat} (h : w.ownsRow B T 10 v m (encs (ks ++ [y]))) (hm : m = ks.length + 1) (hb : Below w.heap.size w wr) :
    ∃ (g cap : Nat), v = .slice (some ⟨g, 0, none⟩) m cap ∧ g < wr.heap.size ∧ m ≤ cap ∧ cap ≤ maxLen ∧ R10 wr g (ks.length * 10) (sg y.lo) (ab y.lo) (sg y.hi) (ab y.hi) := by
  subst hm
  have h' : w.ownsRow B T 10 v (ks ++ [y]).length (encs (ks ++ [y])) := by rw [List.length_append]; exact h
  obtain ⟨g, cap, x, e, hg, hx, h1, h2, hr⟩ := cl_lit h' (i := ks.length) (by simp) hb
  rw [List.getElem?_concat_length] at hx
  obtain rfl := Option.some.inj hx
  rw [List.length_append] at e h1
  exact ⟨g, cap, e, hg, h1, h2, hr⟩
theorem join_next {x y : Cl} (q : Bool) (z1 : Int) (hq : nxOk 1 (sg y.hi) (ab y.hi) = q) (hz : cmpI (sg x.lo) (ab x.lo) (sg (nx 1 (sg y.hi) (ab y.hi))) (ab (nx 1 (sg y.hi) (ab y.hi))) = z1) :
    (q = false → x.lo ≤ y.hi + 1) ∧ (q = true → (z1 ≤ 0 ↔ x.lo ≤ y.hi + 1)) := by
  have e : zI (sg y.hi) (ab y.hi) = y.hi := zI_sg _
  have h1 := x.hl
  have h2 := y.hh
  rw [cmpI_sg] at hz
  unfold nx at hz
  rw [hq, e] at hz
  unfold nxOk at hq
  rw [mayI_sg, e, Bool.true_and] at hq
  constructor
  · intro c
    rw [c, decide_eq_false_iff_not] at hq
    unfold ab at hq
    omega
  · intro c
    rw [c, if_pos rfl] at hz
    subst hz
    unfold cmpZ
    split
    · omega
    · split <;> omega
theorem join_up {x y : Cl} (z2 : Int) (hz : cmpI (sg x.hi) (ab x.hi) (sg y.hi) (ab y.hi) = z2) : 0 < z2 ↔ y.hi < x.hi := by
  rw [cmpI_sg] at hz
  subst hz
  unfold cmpZ
  split
  · omega
  · split <;> omega
theorem upTo_keep {x y : Cl} (h : ¬ y.hi < x.hi) : y.upTo x = y := iv_inj (by show (_, _) = _; rw [show (y.upTo x).hi = y.hi from if_neg h]; rfl)
end Go.Proofs.YtekeedjhaakbhaaGreatDoor
