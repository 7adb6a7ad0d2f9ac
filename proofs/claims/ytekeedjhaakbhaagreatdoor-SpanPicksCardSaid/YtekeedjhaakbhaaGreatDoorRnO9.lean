/- Plain facts for the document's Norm: spans with both ends; a span put into a rising list. · append inside a region that draws, at any row; Step of the document, upwards and downwards. · of of the document: a span of two ends. -/
import Derived.Test.YtekeedjhaakbhaaGreatDoorRefH
import Derived.Test.YtekeedjhaakbhaaGreatDoorFormR
import Derived.Test.YtekeedjhaakbhaaGreatDoorAppC
namespace Go.Proofs.YtekeedjhaakbhaaGreatDoor
open Go.RowKit
/-- a span with both ends, as the document keeps it on the way -/
def rawS (x : Cl) : Sp := ⟨false, false, sg x.lo, ab x.lo, sg x.hi, ab x.hi⟩
theorem rawS_lt {l : List Cl} : ∀ s ∈ l.map rawS, s.vl < 2 ^ 256 ∧ s.vh < 2 ^ 256 := fun s hs => by
  obtain ⟨x, -, rfl⟩ := List.mem_map.1 hs
  exact ⟨x.hl, x.hh⟩
def RiseK (l : List Cl) : Prop := l.Pairwise (fun a b => a.lo ≤ b.lo)
theorem RiseK.rise : ∀ {l : List Cl}, RiseK l → Rise (l.map Cl.iv) := by
  intro l
  induction l with
  | nil => intro _; trivial
  | cons c t ih =>
    intro h
    obtain ⟨h1, h2⟩ := List.pairwise_cons.1 h
    refine ⟨fun d hd => ?_, ih h2⟩
    obtain ⟨y, hy, rfl⟩ := List.mem_map.1 hd
    exact h1 y hy
theorem RiseK.get {l : List Cl} (h : RiseK l) {i j : Nat} {x y : Cl} (hij : i ≤ j) (hx : l[i]? = some x) (hy : l[j]? = some y) : x.lo ≤ y.lo := by
  obtain ⟨hi, rfl⟩ := List.getElem?_eq_some_iff.1 hx
  obtain ⟨hj, rfl⟩ := List.getElem?_eq_some_iff.1 hy
  by_cases e : i = j
  · subst e; exact Int.le_refl _
  · exact List.pairwise_iff_getElem.1 h i j hi hj (by omega)
def insK (l : List Cl) (k : Nat) (x : Cl) : List Cl := l.take k ++ x :: l.drop k
theorem insK_len {l : List Cl} {k : Nat} {x : Cl} : (insK l k x).length = l.length + 1 := by
  unfold insK
  rw [List.length_append, List.length_cons, List.length_take, List.length_drop]
  omega
theorem insK_rise {l : List Cl} {k : Nat} {x : Cl} (h : RiseK l) (h1 : ∀ j y, j < k → l[j]? = some y → y.lo ≤ x.lo) (h2 : ∀ j y, k ≤ j → l[j]? = some y → x.lo ≤ y.lo) : RiseK (insK l k x) := by
  unfold insK RiseK
  have hp : (l.take k ++ l.drop k).Pairwise (fun a b => a.lo ≤ b.lo) := by rw [List.take_append_drop]; exact h
  obtain ⟨p1, p2, p3⟩ := List.pairwise_append.1 hp
  have hd : ∀ y ∈ l.drop k, x.lo ≤ y.lo := fun y hy => by
    obtain ⟨j, hj⟩ := List.getElem?_of_mem hy
    rw [List.getElem?_drop] at hj
    exact h2 _ y (Nat.le_add_right _ _) hj
  have ht : ∀ y ∈ l.take k, y.lo ≤ x.lo := fun y hy => by
    obtain ⟨j, hj⟩ := List.getElem?_of_mem hy
    rw [List.getElem?_take] at hj
    split at hj
    · exact h1 j y (by assumption) hj
    · cases hj
  refine List.pairwise_append.2 ⟨p1, List.pairwise_cons.2 ⟨hd, p2⟩, fun a ha b hb => ?_⟩
  rcases List.mem_cons.1 hb with rfl | hb
  · exact ht a ha
  · exact p3 a ha b hb
theorem insK_perm (l : List Cl) (k : Nat) (x : Cl) : (insK l k x).Perm (x :: l) := by
  unfold insK
  refine List.perm_middle.trans ?_
  rw [List.take_append_drop]
theorem insK_mem {l : List Cl} {k : Nat} {x : Cl} {z : Int} : MemL ((insK l k x).map Cl.iv) z ↔ (x.lo ≤ z ∧ z ≤ x.hi) ∨ MemL (l.map Cl.iv) z := by
  rw [MemL_perm ((insK_perm l k x).map Cl.iv), List.map_cons, MemL_cons]
  rfl
/-- what the first loop has made of the first i spans -/
structure InsP (S : Nat → Sp) (i : Nat) (ks : List Cl) : Prop where
  r : RiseK ks
  ok : ∀ c ∈ ks, c.lo ≤ c.hi
  mem : ∀ z, MemL (ks.map Cl.iv) z ↔ InS S i z
  le : ks.length ≤ i
theorem InsP_zero (S : Nat → Sp) : InsP S 0 [] := ⟨List.Pairwise.nil, fun c hc => (by cases hc), fun z => ⟨fun h => absurd h (MemL_nil z), fun ⟨i, hi, _⟩ => by omega⟩, Nat.le_refl _⟩
theorem InS_succ {S : Nat → Sp} {n : Nat} {z : Int} : InS S (n + 1) z ↔ InS S n z ∨ ((S n).iv.1 ≤ z ∧ z ≤ (S n).iv.2) := by
  constructor
  · rintro ⟨i, hi, h⟩
    by_cases e : i = n
    · subst e; exact .inr h
    · exact .inl ⟨i, by omega, h⟩
  · rintro (⟨i, hi, h⟩ | h)
    · exact ⟨i, by omega, h⟩
    · exact ⟨n, by omega, h⟩
theorem InsP.skip {S : Nat → Sp} {i : Nat} {ks : List Cl} (h : InsP S i ks) (hx : (S i).iv.2 < (S i).iv.1) : InsP S (i + 1) ks :=
  ⟨h.r, h.ok, fun z => (h.mem z).trans ⟨fun y => InS_succ.2 (.inl y), fun y => (InS_succ.1 y).elim id fun ⟨a, b⟩ => by omega⟩, by have := h.le; omega⟩
theorem InsP.ins {S : Nat → Sp} {i k : Nat} {ks : List Cl} {x : Cl} (h : InsP S i ks) (hx : x.iv = (S i).iv) (ho : x.lo ≤ x.hi) (_hk : k ≤ ks.length) (h1 : k = 0 ∨ ∃ y, ks[k - 1]? = some y ∧ y.lo ≤ x.lo)
    (h2 : ∀ j y, k ≤ j → ks[j]? = some y → x.lo < y.lo) : InsP S (i + 1) (insK ks k x) := by
  have e1 : x.lo = (S i).iv.1 := congrArg Prod.fst hx
  have e2 : x.hi = (S i).iv.2 := congrArg Prod.snd hx
  refine ⟨insK_rise h.r (fun j y hj hy => ?_) (fun j y hj hy => Int.le_of_lt (h2 j y hj hy)), fun c hc => ?_, fun z => ?_, by rw [insK_len]; have := h.le; omega⟩
  · rcases h1 with h1 | ⟨u, hu, hl⟩
    · omega
    · exact Int.le_trans (h.r.get (by omega) hy hu) hl
  · rcases List.mem_cons.1 ((insK_perm ks k x).mem_iff.1 hc) with rfl | hc
    · exact ho
    · exact h.ok c hc
  · rw [insK_mem, h.mem z, InS_succ, e1, e2]
    exact Or.comm
theorem InsP.set {S : Nat → Sp} {n : Nat} {ks : List Cl} (h : InsP S n ks) : SetF (joinK ks) (InS S n) :=
  joinK_set (fun c hc => by obtain ⟨y, hy, rfl⟩ := List.mem_map.1 hc; exact h.ok y hy) h.r.rise h.mem
/-- a span's ends, as a closed one -/
def clS (s : Sp) (h : s.vl < 2 ^ 256 ∧ s.vh < 2 ^ 256) : Cl := ⟨s.iv.1, s.iv.2, by
    show ab s.iv.1 < 2 ^ 256; rw [← (ends_iv s).1, ab_zI]; exact elv_lt h.1, by
    show ab s.iv.2 < 2 ^ 256; rw [← (ends_iv s).2, ab_zI]; exact elv_lt h.2⟩
end Go.Proofs.YtekeedjhaakbhaaGreatDoor

namespace Go.Proofs.YtekeedjhaakbhaaGreatDoor
open Go Go.RowKit
section
variable {P : Program} {w : World}
theorem step_append_any {ops : Array Oper} {o : Oper} {a : Act} {K : Act → World → Prop} {Q : Exit → Act → World → Prop} {E : Prop} (hg : o.guard = none) (s x : Operand) (t : TypeId)
    (ho : o.op = .call { callee := .builtin .append, args := #[s, x], argTypes := #[t, t] })
    (base : Nat) (e : TypeId) (i : TypeInfo) (z : Value) (size bytes : Nat) (ht : P.underlying t = some (.slice e)) (hi : P.info? e = some i) (hz : i.zero = some z)
    (hsize : i.size = size) (hby : i.bytes = bytes) (hzs : z.cells.size = size) (hsz : 0 < size)
    (v : Value) (n : Nat) (xs : List Value) (hs : a.eval s = v) (hown : w.ownsRow base e size v n xs)
    (xv : Value) (m : Nat) (news : List Value) (hx : a.eval x = xv) (hsrc : SrcOk w xv m size news)
    (h63 : n + m ≤ maxLen) (hbytes : (n + m) * bytes ≤ 140737488355328) (hbase : base ≤ w.heap.size)
    (h : ∀ v' w', w'.ownsRow base e size v' (n + m) (xs ++ news) → w.grownBy w' v.ownBlock → K (a.put o.dst v') w') :
    if Region.wanted o (yielded ops a.tmps) = true then Oper.wp P o a w K Q else E := by
  have hw : Region.wanted o (yielded ops a.tmps) = true := by simp [Region.wanted, hg]
  rw [if_pos hw]
  exact wp_append_any s x t ho base e i z size bytes ht hi hz hsize hby hzs hsz v n xs hs hown xv m news hx hsrc h63 hbytes hbase h
end
theorem form_grown {w wr w1 w2 : World} {T n : Nat} {v : Value} {xs : List Value} (h : Below w.heap.size w wr) (h1 : Below w.heap.size w w1) (hg : w1.grownBy w2 v.ownBlock) {wo : World} (ho : wo.ownsRow wr.heap.size T 12 v n xs) : Below w.heap.size w w2 :=
  h1.grown hg h1.size (fun k hk => by have := (ho.lt k hk).1; have := h.size; omega)
theorem src_zero {w : World} {size : Nat} (x : Option Addr) (y : Nat) : SrcOk w (.slice x 0 y) 0 size [] := by
  cases x with
  | none => exact .inr ⟨y, rfl, rfl, rfl⟩
  | some ad => exact .inl ⟨ad, y, rfl, by simp, fun j u hj => by simp at hj, fun u hu => by cases hu⟩
theorem stepUp_any (n : Bool) (V : Nat) (hV : V < 2 ^ 256) (w : World) :
    Calls Tryz.prog 43 #[.agg #[.bool (n ), .int .u64 (lm ( V) 0 : Nat), .int .u64 (lm ( V) 1 : Nat), .int .u64 (lm ( V) 2 : Nat), .int .u64 (lm ( V) 3 : Nat)], .bool true] w fun e w' => e = .returned (.tuple #[.agg #[.bool (sg (nx 1 n V) ), .int .u64 (lm ( ab (nx 1 n V)) 0 : Nat), .int .u64 (lm ( ab (nx 1 n V)) 1 : Nat), .int .u64 (lm ( ab (nx 1 n V)) 2 : Nat), .int .u64 (lm ( ab (nx 1 n V)) 3 : Nat)], .bool (nxOk 1 n V)]) ∧ Below w.heap.size w w' := by
  have h := RStep_any n true V hV w
  rw [if_pos rfl] at h
  exact h
theorem stepDn_any (n : Bool) (V : Nat) (hV : V < 2 ^ 256) (w : World) :
    Calls Tryz.prog 43 #[.agg #[.bool (n ), .int .u64 (lm ( V) 0 : Nat), .int .u64 (lm ( V) 1 : Nat), .int .u64 (lm ( V) 2 : Nat), .int .u64 (lm ( V) 3 : Nat)], .bool false] w fun e w' => e = .returned (.tuple #[.agg #[.bool (sg (nx (-1) n V) ), .int .u64 (lm ( ab (nx (-1) n V)) 0 : Nat), .int .u64 (lm ( ab (nx (-1) n V)) 1 : Nat), .int .u64 (lm ( ab (nx (-1) n V)) 2 : Nat), .int .u64 (lm ( ab (nx (-1) n V)) 3 : Nat)], .bool (nxOk (-1) n V)]) ∧ Below w.heap.size w w' := by
  have h := RStep_any n false V hV w
  rw [if_neg (by decide)] at h
  exact h
end Go.Proofs.YtekeedjhaakbhaaGreatDoor

namespace Go.Proofs.YtekeedjhaakbhaaGreatDoor
open Go Go.RowKit
/-- what stands in of: the span's block, the result's -/
structure OfI (w wr : World) (B R : Nat) (hl hh nl : Bool) (vl : Nat) (nh : Bool) (vh : Nat) : Prop where
  s : S12 wr B hl hh nl vl nh vh
  z : S12 wr R false false false 0 false 0
  sf : ∀ j, wr.frozen? ⟨B, j, none⟩ = false
  zf : ∀ j, wr.frozen? ⟨R, j, none⟩ = false
  b : Below w.heap.size w wr
  l : w.heap.size ≤ B ∧ w.heap.size ≤ R
  ne : ¬ B = R ∧ ¬ R = B
  lt : B < wr.heap.size ∧ R < wr.heap.size
theorem S12.old {w : World} {B : Nat} {hl hh nl nh : Bool} {vl vh : Nat} (h : S12 w B hl hh nl vl nh vh) (o : Obj) : S12 (w.alloc o) B hl hh nl vl nh vh := h.below (below_alloc (Below.refl _ _) _)
theorem s12_new {w : World} {t : TypeId} {hl hh nl nh : Bool} {vl vh : Nat} : S12 (w.alloc (.cells #[.bool hl, .bool hh, .bool nl, .int .u64 (lm vl 0 : Nat), .int .u64 (lm vl 1 : Nat), .int .u64 (lm vl 2 : Nat), .int .u64 (lm vl 3 : Nat), .bool nh, .int .u64 (lm vh 0 : Nat), .int .u64 (lm vh 1 : Nat), .int .u64 (lm vh 2 : Nat), .int .u64 (lm vh 3 : Nat)] t)) w.heap.size hl hh nl vl nh vh := ⟨by simp [go_sem]⟩
abbrev TwoC (w' : World) (A : Nat) (n : Bool) (V : Nat) (B : Nat) (m : Bool) (U : Nat) : Prop := w'.cell? ⟨A, 0, none⟩ = some (.bool n) ∧ w'.cell? ⟨A, 1, none⟩ = some (.int .u64 (lm V 0 : Nat)) ∧ w'.cell? ⟨A, 2, none⟩ = some (.int .u64 (lm V 1 : Nat)) ∧ w'.cell? ⟨A, 3, none⟩ = some (.int .u64 (lm V 2 : Nat)) ∧ w'.cell? ⟨A, 4, none⟩ = some (.int .u64 (lm V 3 : Nat)) ∧ w'.cell? ⟨B, 0, none⟩ = some (.bool m) ∧ w'.cell? ⟨B, 1, none⟩ = some (.int .u64 (lm U 0 : Nat)) ∧ w'.cell? ⟨B, 2, none⟩ = some (.int .u64 (lm U 1 : Nat)) ∧ w'.cell? ⟨B, 3, none⟩ = some (.int .u64 (lm U 2 : Nat)) ∧ w'.cell? ⟨B, 4, none⟩ = some (.int .u64 (lm U 3 : Nat))
theorem twoc_cells {w w' : World} {A B V U : Nat} {n m : Bool} (x : IBox w A n V) (y : IBox w B m U) (hk : Below w.heap.size w w') : TwoC w' A n V B m U :=
  have a := x.below hk; have b := y.below hk
  ⟨a.c0, a.c1, a.c2, a.c3, a.c4, b.c0, b.c1, b.c2, b.c3, b.c4⟩
/-- a block of noughts, where a span is to be -/
structure ZBl (w : World) (B : Nat) : Prop where
  z : S12 w B false false false 0 false 0
  f : ∀ j, w.frozen? ⟨B, j, none⟩ = false
  l : B < w.heap.size
theorem ZBl.below {w w1 : World} {B : Nat} (h : ZBl w B) (hb : Below w.heap.size w w1) : ZBl w1 B :=
  ⟨h.z.below hb, fun j => (hb.frozen (p := ⟨B, j, none⟩) h.l).trans (h.f j), Nat.lt_of_lt_of_le h.l hb.size⟩
theorem ZBl.drew {w : World} {B : Nat} (h : ZBl w B) : ZBl w.drew B := h.below (Below.refl _ _).drew
/-- a new block of noughts -/
theorem zbl_new {w : World} {t : TypeId} : ZBl (w.alloc (.cells #[.bool false, .bool false, .bool false, .int .u64 0, .int .u64 0, .int .u64 0, .int .u64 0, .bool false, .int .u64 0, .int .u64 0, .int .u64 0, .int .u64 0] t)) w.heap.size := ⟨⟨by simp [go_sem, lm_zero]⟩, fun j => by simp [go_sem], by simp⟩
theorem ZBl.all {w : World} {B : Nat} (h : ZBl w B) : (w.cell? ⟨B, 0, none⟩ = some (.bool false) ∧ w.cell? ⟨B, 1, none⟩ = some (.bool false) ∧ w.cell? ⟨B, 2, none⟩ = some (.bool false) ∧ w.cell? ⟨B, 3, none⟩ = some (.int .u64 0) ∧ w.cell? ⟨B, 4, none⟩ = some (.int .u64 0) ∧ w.cell? ⟨B, 5, none⟩ = some (.int .u64 0) ∧ w.cell? ⟨B, 6, none⟩ = some (.int .u64 0) ∧ w.cell? ⟨B, 7, none⟩ = some (.bool false) ∧ w.cell? ⟨B, 8, none⟩ = some (.int .u64 0) ∧ w.cell? ⟨B, 9, none⟩ = some (.int .u64 0) ∧ w.cell? ⟨B, 10, none⟩ = some (.int .u64 0) ∧ w.cell? ⟨B, 11, none⟩ = some (.int .u64 0)) ∧ (∀ j, w.frozen? ⟨B, j, none⟩ = false) ∧ B < w.heap.size := by
  have e := h.z.all
  simp only [lm_zero] at e
  exact ⟨e, h.f, h.l⟩
theorem but12 (w : World) (B : Nat) (v0 v1 v2 v3 v4 v5 v6 v7 v8 v9 va vb : Value) : But B B w ((((((((((((w.setCell ⟨B, 0, none⟩ v0).setCell ⟨B, 1, none⟩ v1).setCell ⟨B, 2, none⟩ v2).setCell ⟨B, 3, none⟩ v3).setCell ⟨B, 4, none⟩ v4).setCell ⟨B, 5, none⟩ v5).setCell ⟨B, 6, none⟩ v6).setCell ⟨B, 7, none⟩ v7).setCell ⟨B, 8, none⟩ v8).setCell ⟨B, 9, none⟩ v9).setCell ⟨B, 10, none⟩ va).setCell ⟨B, 11, none⟩ vb) :=
  ((((((((((((But.of (Below.refl _ w)).setB).setB).setB).setB).setB).setB).setB).setB).setB).setB).setB).setB
theorem ofi_set {w w0 w2 : World} {B R V U : Nat} {b1 b2 n m : Bool} (hW : Below w.heap.size w w0) (Z0 : ZBl w0 R) (hR : w.heap.size ≤ R) (hb : Below w0.heap.size w0 w2) (hB : w0.heap.size ≤ B) (Q : ZBl w2 B) :
    OfI w ((((((((((((w2.setCell ⟨B, 0, none⟩ (.bool b1)).setCell ⟨B, 1, none⟩ (.bool b2)).setCell ⟨B, 2, none⟩ (.bool n)).setCell ⟨B, 3, none⟩ (.int .u64 (lm V 0 : Nat))).setCell ⟨B, 4, none⟩ (.int .u64 (lm V 1 : Nat))).setCell ⟨B, 5, none⟩ (.int .u64 (lm V 2 : Nat))).setCell ⟨B, 6, none⟩ (.int .u64 (lm V 3 : Nat))).setCell ⟨B, 7, none⟩ (.bool m)).setCell ⟨B, 8, none⟩ (.int .u64 (lm U 0 : Nat))).setCell ⟨B, 9, none⟩ (.int .u64 (lm U 1 : Nat))).setCell ⟨B, 10, none⟩ (.int .u64 (lm U 2 : Nat))).setCell ⟨B, 11, none⟩ (.int .u64 (lm U 3 : Nat))) B R b1 b2 n V m U := by
  have k := but12 w2 B (.bool b1) (.bool b2) (.bool n) (.int .u64 (lm V 0 : Nat)) (.int .u64 (lm V 1 : Nat)) (.int .u64 (lm V 2 : Nat)) (.int .u64 (lm V 3 : Nat)) (.bool m) (.int .u64 (lm U 0 : Nat)) (.int .u64 (lm U 1 : Nat)) (.int .u64 (lm U 2 : Nat)) (.int .u64 (lm U 3 : Nat))
  have z := Z0.below hb
  have hl := Z0.l
  have hs := hW.size
  obtain ⟨⟨_, _, _, _, _, _, _, _, _, _, _, _⟩, _, _⟩ := Q.all
  exact ⟨⟨by simp [go_sem, *]⟩, z.z.but k (by omega) (by omega), fun j => by simp [go_sem, *], fun j => (k.frozen (p := ⟨R, j, none⟩) (show R ≠ B by omega) (show R ≠ B by omega) z.l).trans (z.f j), below_but (hW.trans (below_weak hb hs)) k (by omega), ⟨by omega, hR⟩, ⟨by omega, by omega⟩, ⟨Nat.lt_of_lt_of_le Q.l k.size, Nat.lt_of_lt_of_le z.l k.size⟩⟩
theorem ofi_new {w w0 w2 : World} {R V U : Nat} {b1 b2 n m : Bool} {t : TypeId} (hW : Below w.heap.size w w0) (Z0 : ZBl w0 R) (hR : w.heap.size ≤ R) (hb : Below w0.heap.size w0 w2) :
    OfI w (w2.alloc (.cells #[.bool b1, .bool b2, .bool n, .int .u64 (lm V 0 : Nat), .int .u64 (lm V 1 : Nat), .int .u64 (lm V 2 : Nat), .int .u64 (lm V 3 : Nat), .bool m, .int .u64 (lm U 0 : Nat), .int .u64 (lm U 1 : Nat), .int .u64 (lm U 2 : Nat), .int .u64 (lm U 3 : Nat)] t)) w2.heap.size R b1 b2 n V m U := by
  have z := Z0.below hb
  have hl := Z0.l
  have hs := hW.size
  have hs2 := hb.size
  have z2 := z.below (below_alloc (Below.refl w2.heap.size w2) (.cells #[.bool b1, .bool b2, .bool n, .int .u64 (lm V 0 : Nat), .int .u64 (lm V 1 : Nat), .int .u64 (lm V 2 : Nat), .int .u64 (lm V 3 : Nat), .bool m, .int .u64 (lm U 0 : Nat), .int .u64 (lm U 1 : Nat), .int .u64 (lm U 2 : Nat), .int .u64 (lm U 3 : Nat)] t))
  exact ⟨s12_new, z2.z, fun j => by simp [go_sem], z2.f, below_alloc (hW.trans (below_weak hb hs)) _, ⟨by omega, hR⟩, ⟨by omega, by omega⟩, ⟨by simp, z2.l⟩⟩
set_option maxRecDepth 20000 in
set_option maxHeartbeats 4000000 in
theorem ROf_walk (n : Bool) (V : Nat) (m : Bool) (U : Nat) (b1 b2 : Bool)
    (q1 : eqI n true (lm V 0 : Nat) (lm V 1 : Nat) (lm V 2 : Nat) (lm V 3 : Nat) (lm topN 0 : Nat) (lm topN 1 : Nat) (lm topN 2 : Nat) (lm topN 3 : Nat) = b1)
    (q2 : eqI m false (lm U 0 : Nat) (lm U 1 : Nat) (lm U 2 : Nat) (lm U 3 : Nat) (lm topN 0 : Nat) (lm topN 1 : Nat) (lm topN 2 : Nat) (lm topN 3 : Nat) = b2) (w : World) :
    Calls Tryz.prog 44 #[.agg #[.bool (n ), .int .u64 (lm ( V) 0 : Nat), .int .u64 (lm ( V) 1 : Nat), .int .u64 (lm ( V) 2 : Nat), .int .u64 (lm ( V) 3 : Nat)], .agg #[.bool (m ), .int .u64 (lm ( U) 0 : Nat), .int .u64 (lm ( U) 1 : Nat), .int .u64 (lm ( U) 2 : Nat), .int .u64 (lm ( U) 3 : Nat)]] w fun e w' => e = .returned (.agg #[.bool (!b1), .bool (!b2), .bool (if b1 then false else n), .int .u64 (if b1 then 0 else (lm V 0 : Nat)), .int .u64 (if b1 then 0 else (lm V 1 : Nat)), .int .u64 (if b1 then 0 else (lm V 2 : Nat)), .int .u64 (if b1 then 0 else (lm V 3 : Nat)),
      .bool (if b2 then false else m), .int .u64 (if b2 then 0 else (lm U 0 : Nat)), .int .u64 (if b2 then 0 else (lm U 1 : Nat)), .int .u64 (if b2 then 0 else (lm U 2 : Nat)), .int .u64 (if b2 then 0 else (lm U 3 : Nat))]) ∧ Below w.heap.size w w' := by
  have CT := Lib.hid fun wx => REnd_any true wx
  have CF := Lib.hid fun wx => REnd_any false wx
  have R1 := Lib.hid fun wx => (neqI_run n true (lm V 0 : Nat) (lm V 1 : Nat) (lm V 2 : Nat) (lm V 3 : Nat) (lm topN 0 : Nat) (lm topN 1 : Nat) (lm topN 2 : Nat) (lm topN 3 : Nat) wx).trans (by rw [q1])
  have R2 := Lib.hid fun wx => (neqI_run m false (lm U 0 : Nat) (lm U 1 : Nat) (lm U 2 : Nat) (lm U 3 : Nat) (lm topN 0 : Nat) (lm topN 1 : Nat) (lm topN 2 : Nat) (lm topN 3 : Nat) wx).trans (by rw [q2])
  clear q1 q2
  go_enter Tryz.func44, Tryz.ntmps44
  go_upto_region 1 with fail
  go_cut [4, 5] (fun s4 s5 wx => ∃ R B, s4 = .pointer (some ⟨R, 0, none⟩) ∧ s5 = .pointer (some ⟨B, 0, none⟩) ∧ OfI w wx B R (!b1) (!b2) n V m U)
  case first =>
    have X0 := Lib.hid (((@ibox_new w n V 29).alloc (.cells #[.bool m, .int .u64 (lm U 0 : Nat), .int .u64 (lm U 1 : Nat), .int .u64 (lm U 2 : Nat), .int .u64 (lm U 3 : Nat)] 29)).alloc (.cells #[.bool false, .bool false, .bool false, .int .u64 0, .int .u64 0, .int .u64 0, .int .u64 0, .bool false, .int .u64 0, .int .u64 0, .int .u64 0, .int .u64 0] 37))
    have Y0 := Lib.hid ((@ibox_new1 w m U 29 (.cells #[.bool n, .int .u64 (lm V 0 : Nat), .int .u64 (lm V 1 : Nat), .int .u64 (lm V 2 : Nat), .int .u64 (lm V 3 : Nat)] 29)).alloc (.cells #[.bool false, .bool false, .bool false, .int .u64 0, .int .u64 0, .int .u64 0, .int .u64 0, .bool false, .int .u64 0, .int .u64 0, .int .u64 0, .int .u64 0] 37))
    have Z0 := Lib.hid (@zbl_new ((w.alloc (.cells #[.bool n, .int .u64 (lm V 0 : Nat), .int .u64 (lm V 1 : Nat), .int .u64 (lm V 2 : Nat), .int .u64 (lm V 3 : Nat)] 29)).alloc (.cells #[.bool m, .int .u64 (lm U 0 : Nat), .int .u64 (lm U 1 : Nat), .int .u64 (lm U 2 : Nat), .int .u64 (lm U 3 : Nat)] 29)) 37)
    rw [show ((w.alloc (.cells #[.bool n, .int .u64 (lm V 0 : Nat), .int .u64 (lm V 1 : Nat), .int .u64 (lm V 2 : Nat), .int .u64 (lm V 3 : Nat)] 29)).alloc (.cells #[.bool m, .int .u64 (lm U 0 : Nat), .int .u64 (lm U 1 : Nat), .int .u64 (lm U 2 : Nat), .int .u64 (lm U 3 : Nat)] 29)).heap.size = w.heap.size + 1 + 1 from by simp] at Z0
    have hW : Below w.heap.size w (((w.alloc (.cells #[.bool n, .int .u64 (lm V 0 : Nat), .int .u64 (lm V 1 : Nat), .int .u64 (lm V 2 : Nat), .int .u64 (lm V 3 : Nat)] 29)).alloc (.cells #[.bool m, .int .u64 (lm U 0 : Nat), .int .u64 (lm U 1 : Nat), .int .u64 (lm U 2 : Nat), .int .u64 (lm U 3 : Nat)] 29)).alloc (.cells #[.bool false, .bool false, .bool false, .int .u64 0, .int .u64 0, .int .u64 0, .int .u64 0, .bool false, .int .u64 0, .int .u64 0, .int .u64 0, .int .u64 0] 37)) := by (repeat first | with_reducible exact Below.refl _ _ | with_reducible assumption | with_reducible refine Below.drew ?_ | with_reducible refine below_alloc ?_ _ | ((with_reducible refine Below.setCell ?_ ?_ _); rotate_left; (focus (first | with_reducible exact Nat.le_refl _ | (simp; done) | (simp; omega) | omega))) | (with_reducible refine below_trans ?_ (by assumption)))
    generalize ((w.alloc (.cells #[.bool n, .int .u64 (lm V 0 : Nat), .int .u64 (lm V 1 : Nat), .int .u64 (lm V 2 : Nat), .int .u64 (lm V 3 : Nat)] 29)).alloc (.cells #[.bool m, .int .u64 (lm U 0 : Nat), .int .u64 (lm U 1 : Nat), .int .u64 (lm U 2 : Nat), .int .u64 (lm U 3 : Nat)] 29)).alloc (.cells #[.bool false, .bool false, .bool false, .int .u64 0, .int .u64 0, .int .u64 0, .int .u64 0, .bool false, .int .u64 0, .int .u64 0, .int .u64 0, .int .u64 0] 37) = w0 at *
    have N1 := R1.out
    have N2 := R2.out
    have hq : Below w0.heap.size w0 w0.drew := (Below.refl _ _).drew
    have KP := Lib.hid fun (w' : World) (hk : Below w0.heap.size w0 w') => twoc_cells X0.out Y0.out hk
    go_region_held3 (fun w' => TwoC w' w.heap.size n V (w.heap.size + 1) m U) (first | with_reducible assumption | exact KP.out _ (by (repeat first | with_reducible exact Below.refl _ _ | with_reducible assumption | with_reducible refine Below.drew ?_ | with_reducible refine below_alloc ?_ _ | ((with_reducible refine Below.setCell ?_ ?_ _); rotate_left; (focus (first | with_reducible exact Nat.le_refl _ | (simp; done) | (simp; omega) | omega))) | (with_reducible refine below_trans ?_ (by assumption))))) (first | (go_at_call 45; with_reducible refine (CT.out _).mono ?_; rintro e w1 ⟨rfl, hb1⟩; (have hs1 := hb1.size; (try simp at hs1)); (try (first | have ZQ := Lib.hid (zbl_new.below hb1) | have ZQ := Lib.hid (zbl_new.drew.below hb1) | have ZQ := Lib.hid (ZQ.out.below hb1)); (obtain ⟨⟨_, _, _, _, _, _, _, _, _, _, _, _⟩, _, _⟩ := ZQ.out.all))) | (go_at_call 45; with_reducible refine (CF.out _).mono ?_; rintro e w2 ⟨rfl, hb2⟩; (have hs2 := hb2.size; (try simp at hs2)); (try (first | have ZQ := Lib.hid (zbl_new.below hb2) | have ZQ := Lib.hid (zbl_new.drew.below hb2) | have ZQ := Lib.hid (ZQ.out.below hb2)); (obtain ⟨⟨_, _, _, _, _, _, _, _, _, _, _, _⟩, _, _⟩ := ZQ.out.all))))
    all_goals (repeat any_goals (first | go_skip | go_guarded | go_step | go_upon | (simp only []; done)))
    · go_meet
      case rel => exact ⟨_, _, rfl, rfl, ofi_new hW Z0.out (by omega) (by (repeat first | with_reducible exact Below.refl _ _ | with_reducible assumption | with_reducible refine Below.drew ?_ | with_reducible refine below_alloc ?_ _ | ((with_reducible refine Below.setCell ?_ ?_ _); rotate_left; (focus (first | with_reducible exact Nat.le_refl _ | (simp; done) | (simp; omega) | omega))) | (with_reducible refine below_trans ?_ (by assumption))))⟩
    · go_meet
      case rel => exact ⟨_, _, rfl, rfl, ofi_set hW Z0.out (by omega) (by (repeat first | with_reducible exact Below.refl _ _ | with_reducible assumption | with_reducible refine Below.drew ?_ | with_reducible refine below_alloc ?_ _ | ((with_reducible refine Below.setCell ?_ ?_ _); rotate_left; (focus (first | with_reducible exact Nat.le_refl _ | (simp; done) | (simp; omega) | omega))) | (with_reducible refine below_trans ?_ (by assumption)))) (by omega) ZQ.out⟩
    · go_meet
      case rel => exact ⟨_, _, rfl, rfl, ofi_set hW Z0.out (by omega) (by (repeat first | with_reducible exact Below.refl _ _ | with_reducible assumption | with_reducible refine Below.drew ?_ | with_reducible refine below_alloc ?_ _ | ((with_reducible refine Below.setCell ?_ ?_ _); rotate_left; (focus (first | with_reducible exact Nat.le_refl _ | (simp; done) | (simp; omega) | omega))) | (with_reducible refine below_trans ?_ (by assumption)))) (by omega) ZQ.out⟩
  case rest =>
    obtain ⟨R, B, rfl, rfl, O⟩ := hcut
    have OH := Lib.hid O
    have n1 := O.ne.1
    have n2 := O.ne.2
    have f1 := O.sf
    have f2 := O.zf
    have l1 := O.lt.1
    have l2 := O.lt.2
    obtain ⟨_, _, _, _, _, _, _, _, _, _, _, _⟩ := O.s.all
    obtain ⟨_, _, _, _, _, _, _, _, _, _, _, _⟩ := O.z.all
    clear O
    have hW := OH.out.b
    have l3 := OH.out.l.1
    have l4 := OH.out.l.2
    cases b1 <;> cases b2
    · repeat any_goals (first | go_skip | go_guarded | go_step | go_upon | (simp only []; done))
      exact bodyPost_ret (v := .agg #[.bool true, .bool true, .bool n, .int .u64 (lm V 0 : Nat), .int .u64 (lm V 1 : Nat), .int .u64 (lm V 2 : Nat), .int .u64 (lm V 3 : Nat), .bool m, .int .u64 (lm U 0 : Nat), .int .u64 (lm U 1 : Nat), .int .u64 (lm U 2 : Nat), .int .u64 (lm U 3 : Nat)]) (by simp [results, Tryz.results44, go_sem, *]) rfl ⟨by simp, by (repeat first | with_reducible exact Below.refl _ _ | with_reducible assumption | with_reducible refine Below.drew ?_ | with_reducible refine below_alloc ?_ _ | ((with_reducible refine Below.setCell ?_ ?_ _); rotate_left; (focus (first | with_reducible exact Nat.le_refl _ | (simp; done) | (simp; omega) | omega))) | (with_reducible refine below_trans ?_ (by assumption)))⟩
    · repeat any_goals (first | go_skip | go_guarded | go_step | go_upon | (simp only []; done))
      exact bodyPost_ret (v := .agg #[.bool true, .bool false, .bool n, .int .u64 (lm V 0 : Nat), .int .u64 (lm V 1 : Nat), .int .u64 (lm V 2 : Nat), .int .u64 (lm V 3 : Nat), .bool false, .int .u64 0, .int .u64 0, .int .u64 0, .int .u64 0]) (by simp [results, Tryz.results44, go_sem, *]) rfl ⟨by simp, by (repeat first | with_reducible exact Below.refl _ _ | with_reducible assumption | with_reducible refine Below.drew ?_ | with_reducible refine below_alloc ?_ _ | ((with_reducible refine Below.setCell ?_ ?_ _); rotate_left; (focus (first | with_reducible exact Nat.le_refl _ | (simp; done) | (simp; omega) | omega))) | (with_reducible refine below_trans ?_ (by assumption)))⟩
    · repeat any_goals (first | go_skip | go_guarded | go_step | go_upon | (simp only []; done))
      exact bodyPost_ret (v := .agg #[.bool false, .bool true, .bool false, .int .u64 0, .int .u64 0, .int .u64 0, .int .u64 0, .bool m, .int .u64 (lm U 0 : Nat), .int .u64 (lm U 1 : Nat), .int .u64 (lm U 2 : Nat), .int .u64 (lm U 3 : Nat)]) (by simp [results, Tryz.results44, go_sem, *]) rfl ⟨by simp, by (repeat first | with_reducible exact Below.refl _ _ | with_reducible assumption | with_reducible refine Below.drew ?_ | with_reducible refine below_alloc ?_ _ | ((with_reducible refine Below.setCell ?_ ?_ _); rotate_left; (focus (first | with_reducible exact Nat.le_refl _ | (simp; done) | (simp; omega) | omega))) | (with_reducible refine below_trans ?_ (by assumption)))⟩
    · repeat any_goals (first | go_skip | go_guarded | go_step | go_upon | (simp only []; done))
      exact bodyPost_ret (v := .agg #[.bool false, .bool false, .bool false, .int .u64 0, .int .u64 0, .int .u64 0, .int .u64 0, .bool false, .int .u64 0, .int .u64 0, .int .u64 0, .int .u64 0]) (by simp [results, Tryz.results44, go_sem, *]) rfl ⟨by simp, by (repeat first | with_reducible exact Below.refl _ _ | with_reducible assumption | with_reducible refine Below.drew ?_ | with_reducible refine below_alloc ?_ _ | ((with_reducible refine Below.setCell ?_ ?_ _); rotate_left; (focus (first | with_reducible exact Nat.le_refl _ | (simp; done) | (simp; omega) | omega))) | (with_reducible refine below_trans ?_ (by assumption)))⟩
/-- **of** of the document. -/
theorem ROf_any (x : Cl) (w : World) : Calls Tryz.prog 44 #[.agg #[.bool (sg x.lo ), .int .u64 (lm ( ab x.lo) 0 : Nat), .int .u64 (lm ( ab x.lo) 1 : Nat), .int .u64 (lm ( ab x.lo) 2 : Nat), .int .u64 (lm ( ab x.lo) 3 : Nat)], .agg #[.bool (sg x.hi ), .int .u64 (lm ( ab x.hi) 0 : Nat), .int .u64 (lm ( ab x.hi) 1 : Nat), .int .u64 (lm ( ab x.hi) 2 : Nat), .int .u64 (lm ( ab x.hi) 3 : Nat)]] w fun e w' => e = .returned (.agg (opS x).cells.toArray) ∧ Below w.heap.size w w' := by
  refine (ROf_walk (sg x.lo) (ab x.lo) (sg x.hi) (ab x.hi) _ _ rfl rfl w).mono ?_
  rintro e w' ⟨rfl, hb⟩
  rw [open_enc (x := x) ⟨rfl, rfl, rfl, rfl⟩ rfl rfl]
  exact ⟨rfl, hb⟩
end Go.Proofs.YtekeedjhaakbhaaGreatDoor
