/- Tail, NrD, NrF, NrE, NrG, NrI, NrH, As23, No23, An23. -/
import Derived.StillTail
import Derived.Deep.QuietTactic
import Derived.BigQuiet
import Derived.Deep.RegionHeld3
import Derived.Deep.DeepCutAuto
import Derived.Test.YtfondldmmcmloaaGreatDoorPn8
import Derived.Test.YtfondldmmcmloaaGreatDoorPn18
import Derived.Test.YtfondldmmcmloaaGreatDoorPn21
import Derived.Test.YtfondldmmcmloaaGreatDoorPn22
import Derived.Test.YtfondldmmcmloaaGreatDoorPn23
import Derived.Test.YtfondldmmcmloaaGreatDoorPn24
namespace Go.Proofs.YtfondldmmcmloaaGreatDoor
open Go Go.RowKit
theorem z25zb1 {p : Prop} (h : p := by (repeat first | with_reducible exact Below.refl _ _ | with_reducible assumption | with_reducible refine Below.drew ?_ | with_reducible refine below_alloc ?_ _ | ((with_reducible refine Below.setCell ?_ ?_ _); rotate_left; (focus (first | with_reducible exact Nat.le_refl _ | (simp; done) | (simp; omega) | omega))) | (with_reducible refine below_trans ?_ (by assumption)))) : p := h
theorem z25zs1 {p q : Prop} (h : q) (e : q → p := by intro hq; (try simp only [Act.put, List.setIfInBounds_toArray, List.set_cons_zero, List.set_cons_succ]); exact hq) : p := e h
end Go.Proofs.YtfondldmmcmloaaGreatDoor
namespace Go.Proofs.YtfondldmmcmloaaGreatDoor
open Go.RowKit
structure NdW (w W : World) (Bv Br : Nat) (kind : Int) (neg : Bool) (V bits : Nat) (text : ByteArray) (aL : Option Addr) (nL cL : Nat) (aK : Option Addr) (nK cK : Nat) : Prop where
 v : VBx W Bv kind neg V bits text aL nL cL aK nK cK
 r : WBx W Br (.int .i64 0) (.bool false) (.int .u64 0) (.int .u64 0) (.int .u64 0) (.int .u64 0) (.int .u64 0) (.string ⟨#[]⟩) (.slice none 0 0) (.slice none 0 0)
 b : Below w.heap.size w W
 l : w.heap.size ≤ Br
theorem nd_start (w : World) (t2 : TypeId) (kind : Int) (neg : Bool) (V bits : Nat) (text : ByteArray) (aL : Option Addr) (nL cL : Nat) (aK : Option Addr) (nK cK : Nat) :
  NdW w ((w.alloc (.cells #[.int .i64 kind, .bool neg, .int .u64 (lm V 0 : Nat), .int .u64 (lm V 1 : Nat), .int .u64 (lm V 2 : Nat), .int .u64 (lm V 3 : Nat), .int .u64 (bits : Nat), .string text, .slice aL nL cL, .slice aK nK cK] t2)).alloc (.cells #[.int .i64 0, .bool false, .int .u64 0, .int .u64 0, .int .u64 0, .int .u64 0, .int .u64 0, .string ⟨#[]⟩, .slice none 0 0, .slice none 0 0] t2)) w.heap.size (w.heap.size + 1) kind neg V bits text aL nL cL aK nK cK :=
 ⟨⟨by simp [go_sem]⟩, ⟨⟨by simp [go_sem]⟩, fun j => by simp [go_sem]⟩, z25zb1, by omega⟩
end Go.Proofs.YtfondldmmcmloaaGreatDoor
namespace Go.Proofs.YtfondldmmcmloaaGreatDoor
open Go.RowKit
structure NrS2 (w : World) (Bx Bo Bv kb kx : Nat) (kind : Int) (neg : Bool) (V bits : Nat) (text : ByteArray) (aL : Option Addr) (nL cL : Nat) (aK : Option Addr) (nK cK : Nat) (lv kv kk : Value) (s : ByteArray) : Prop where
 y : NrS w Bx Bo kind neg V bits text aL nL cL aK nK cK lv kv
 v : w.cell? ⟨Bv, 9, none⟩ = some kk
 k : w.cell? ⟨kb, kx, none⟩ = some (.string s)
theorem NrS2.all {w : World} {Bx Bo Bv kb kx : Nat} {kind : Int} {neg : Bool} {V bits : Nat} {text : ByteArray} {aL : Option Addr} {nL cL : Nat} {aK : Option Addr} {nK cK : Nat} {lv kv kk : Value} {s : ByteArray} (h : NrS2 w Bx Bo Bv kb kx kind neg V bits text aL nL cL aK nK cK lv kv kk s) :
  w.cell? ⟨Bv, 9, none⟩ = some kk ∧ w.cell? ⟨kb, kx, none⟩ = some (.string s) ∧ w.cell? ⟨Bx, 0, none⟩ = some (.int .i64 kind) ∧ w.cell? ⟨Bx, 1, none⟩ = some (.bool neg) ∧ w.cell? ⟨Bx, 2, none⟩ = some (.int .u64 (lm V 0 : Nat)) ∧ w.cell? ⟨Bx, 3, none⟩ = some (.int .u64 (lm V 1 : Nat)) ∧ w.cell? ⟨Bx, 4, none⟩ = some (.int .u64 (lm V 2 : Nat)) ∧
  w.cell? ⟨Bx, 5, none⟩ = some (.int .u64 (lm V 3 : Nat)) ∧ w.cell? ⟨Bx, 6, none⟩ = some (.int .u64 (bits : Nat)) ∧ w.cell? ⟨Bx, 7, none⟩ = some (.string text) ∧ w.cell? ⟨Bx, 8, none⟩ = some (.slice aL nL cL) ∧ w.cell? ⟨Bx, 9, none⟩ = some (.slice aK nK cK) ∧ w.cell? ⟨Bo, 8, none⟩ = some lv ∧ w.cell? ⟨Bo, 9, none⟩ = some kv := ⟨h.v, h.k, h.y.all⟩
theorem NrS2.below {w w' : World} {Bx Bo Bv kb kx : Nat} {kind : Int} {neg : Bool} {V bits : Nat} {text : ByteArray} {aL : Option Addr} {nL cL : Nat} {aK : Option Addr} {nK cK : Nat} {lv kv kk : Value} {s : ByteArray} (h : NrS2 w Bx Bo Bv kb kx kind neg V bits text aL nL cL aK nK cK lv kv kk s) (hb : Below w.heap.size w w') : NrS2 w' Bx Bo Bv kb kx kind neg V bits text aL nL cL aK nK cK lv kv kk s :=
 ⟨h.y.below hb, keep_cell hb h.v, keep_cell hb h.k⟩
theorem NrS2.grown {w w' : World} {r : Option Nat} {Bx Bo Bv kb kx : Nat} {kind : Int} {neg : Bool} {V bits : Nat} {text : ByteArray} {aL : Option Addr} {nL cL : Nat} {aK : Option Addr} {nK cK : Nat} {lv kv kk : Value} {s : ByteArray} (h : NrS2 w Bx Bo Bv kb kx kind neg V bits text aL nL cL aK nK cK lv kv kk s) (hg : w.grownBy w' r) (h1 : some Bx ≠ r) (h2 : some Bo ≠ r) (h3 : some Bv ≠ r) (h4 : some kb ≠ r) : NrS2 w' Bx Bo Bv kb kx kind neg V bits text aL nL cL aK nK cK lv kv kk s :=
 ⟨h.y.grown hg h1 h2, hg.cell h.v h3, hg.cell h.k h4⟩
structure NrJ (wr w7 wq : World) (By : Nat) (kind : Int) (aK : Option Addr) (nK cK : Nat) (q : Nat) (kids F tq : Nat → VT) (lv : Value) : Prop where
 o : WBx wq By (.int .i64 kind) (.bool false) (.int .u64 0) (.int .u64 0) (.int .u64 0) (.int .u64 0) (.int .u64 0) (.string ⟨#[]⟩) lv (.slice aK nK cK)
 l : wq.ownsRow w7.heap.size 31 10 lv q (rowV tq q)
 t : ∀ i, i < q → NrT wr wq (kids i) (F i) (tq i) ∧ (tq i).Blk (fun b => (b < wr.heap.size ∨ w7.heap.size ≤ b) ∧ some b ≠ lv.ownBlock)
 b : But By By w7 wq
theorem blk_and {Q R : Nat → Prop} : ∀ {x : VT}, x.Blk Q → x.Blk R → x.Blk (fun b => Q b ∧ R b) := by
 intro x
 induction x with
 | nil => exact fun _ _ => trivial
 | mk kind neg V bits text aL nL cL kids aK nK cK keys ih =>
  rintro ⟨a1, a2, a3⟩ ⟨b1, b2, b3⟩
  refine ⟨?_, ?_, fun i hi => ih i (a3 i hi) (b3 i hi)⟩
  ·rcases a1 with a1 | a1
   ·exact .inl a1
   ·rcases b1 with b1 | b1
    ·exact .inl b1
    ·exact .inr fun ad e => ⟨a1 ad e, b1 ad e⟩
  ·rcases a2 with a2 | a2
   ·exact .inl a2
   ·rcases b2 with b2 | b2
    ·exact .inl b2
    ·exact .inr fun ad e => ⟨a2 ad e, b2 ad e⟩
theorem FBx.same {w w' : World} {B : Nat} {nm ty : ByteArray} {nu : Int} {op re ma : Bool} (h : FBx w B nm ty nu op re ma) (hk : w'.heap[B]? = w.heap[B]?) : FBx w' B nm ty nu op re ma := by
 have e : ∀ j, w'.cell? ⟨B, j, none⟩ = w.cell? ⟨B, j, none⟩ := fun j => World.cell?_of_block (a := ⟨B, j, none⟩) hk
 obtain ⟨h0, h1, h2, h3, h4, h5⟩ := h.all
 exact ⟨by rw [e]; exact h0, by rw [e]; exact h1, by rw [e]; exact h2, by rw [e]; exact h3, by rw [e]; exact h4, by rw [e]; exact h5⟩
theorem NrJ.start {wr w7 : World} {By : Nat} {kind : Int} {aK : Option Addr} {nK cK : Nat} {kids F tq : Nat → VT} (o : WBx w7 By (.int .i64 kind) (.bool false) (.int .u64 0) (.int .u64 0) (.int .u64 0) (.int .u64 0) (.int .u64 0) (.string ⟨#[]⟩) (.slice none 0 0) (.slice aK nK cK)) : NrJ wr w7 w7 By kind aK nK cK 0 kids F tq (.slice none 0 0) :=
 ⟨o, World.ownsRow_nil _ _ _ _, fun _i hi => absurd hi (Nat.not_lt_zero _), But.of (Below.refl _ _)⟩
theorem NrJ.push {wr w7 wq w9 w10 : World} {By : Nat} {kind : Int} {aK : Option Addr} {nK cK q : Nat} {kids F tq : Nat → VT} {lv lv1 : Value} {T : VT} (h : NrJ wr w7 wq By kind aK nK cK q kids F tq lv) (h0 : wr.heap.size ≤ By) (h1 : By < w7.heap.size) (hb : Below wq.heap.size wq w9) (hg : w9.grownBy w10 lv.ownBlock)
  (hn : lv1.ownBlock = lv.ownBlock ∨ lv1.ownBlock = some w9.heap.size) (ho : w10.ownsRow w7.heap.size 31 10 lv1 (q + 1) (rowV tq q ++ T.cells)) (hT : NrT wr w9 (kids q) (F q) T) (hTb : T.Blk (fun b => b < wr.heap.size ∨ wq.heap.size ≤ b)) :
  ∃ tq' : Nat → VT, NrJ wr w7 (w10.setCell ⟨By, 8, none⟩ lv1) By kind aK nK cK (q + 1) kids F tq' lv1 := by
 obtain ⟨tq', ht'⟩ : ∃ t' : Nat → VT, t' = fun i => if i < q then tq i else T := ⟨_, rfl⟩
 have e1 : ∀ i, i < q → tq' i = tq i := fun i hi => by rw [ht']; exact if_pos hi
 have e2 : tq' q = T := by rw [ht']; exact if_neg (Nat.lt_irrefl _)
 have s0 := h.b.size
 have s1 := hb.size
 have s2 := hg.size
 have hlt := h.l.lt
 have hBy : some By ≠ lv.ownBlock := fun e => by have := (hlt By e.symm).1; omega
 have hO : WBx w10 By (.int .i64 kind) (.bool false) (.int .u64 0) (.int .u64 0) (.int .u64 0) (.int .u64 0) (.int .u64 0) (.string ⟨#[]⟩) lv (.slice aK nK cK) := (h.o.below hb).same (hg.block By (h.o.below hb).lt hBy)
 have hsz : w9.heap.size ≤ (w10.setCell ⟨By, 8, none⟩ lv1).heap.size := by simpa using s2
 have hk : ∀ b, b < w9.heap.size → ((b < wr.heap.size ∨ w7.heap.size ≤ b) ∧ some b ≠ lv.ownBlock) → (w10.setCell ⟨By, 8, none⟩ lv1).heap[b]? = w9.heap[b]? := fun b hb2 hq => by
  rw [block_setCell (by have := hq.1; omega)]
  exact hg.block b hb2 hq.2
 have hT2 : T.Blk (fun b => (b < wr.heap.size ∨ w7.heap.size ≤ b) ∧ some b ≠ lv.ownBlock) := hTb.mono fun b hb2 => ⟨by omega, fun e => by have := hlt b e.symm; omega⟩
 have hoff : ∀ {x : VT}, x.In w9 → x.Blk (fun b => (b < wr.heap.size ∨ w7.heap.size ≤ b) ∧ some b ≠ lv.ownBlock) → x.Blk (fun b => (b < wr.heap.size ∨ w7.heap.size ≤ b) ∧ some b ≠ lv1.ownBlock) := by
  intro x hx hq
  refine (blk_and hx.blk hq).mono fun b ⟨q0, q1, q2⟩ => ⟨q1, ?_⟩
  rcases hn with e | e
  ·rw [e]; exact q2
  ·rw [e]; intro c; injection c with c; omega
 refine ⟨tq', ?_, own_setCell ?_ h1, fun i hi => ?_, ?_⟩
 ·obtain ⟨hc, hf⟩ := hO
  obtain ⟨_, _, _, _, _, _, _, _, _, _⟩ := hc.all
  exact ⟨⟨by simp [go_sem, *]⟩, fun j => by simp [go_sem, *]⟩
 ·rw [show rowV tq' (q + 1) = rowV tq q ++ T.cells from by
   show rowV tq' q ++ (tq' q).cells = _
   rw [rowV_same e1, e2]]
  exact ho
 ·by_cases c : i < q
  ·rw [e1 i c]
   obtain ⟨a1, a2⟩ := h.t i c
   have a3 := a1.below hb
   exact ⟨⟨a3.i.kept hsz hk a2, a3.q, a3.s⟩, hoff a3.i a2⟩
  ·obtain rfl : i = q := by omega
   rw [e2]
   exact ⟨⟨hT.i.kept hsz hk hT2, hT.q, hT.s⟩, hoff hT.i hT2⟩
 ·refine ⟨hg.os.trans (hb.os.trans h.b.os), hg.tape.trans (hb.tape.trans h.b.tape), hg.output.trans (hb.output.trans h.b.output), Nat.le_trans s0 (Nat.le_trans s1 hsz), fun b hb2 hne _ => ?_⟩
  rw [block_setCell hne, hg.block b (by omega) (fun e => by have := (hlt b e.symm).1; omega), hb.block b (by omega)]
  exact h.b.block b hb2 hne hne
structure NrZ (w : World) (Bx Bf By g o : Nat) (aX : Option Addr) (nX cX : Nat) (ty : ByteArray) (lv : Value) (kind : Int) (neg : Bool) (V bits : Nat) (text : ByteArray) (aL : Option Addr) (nL cL : Nat) (aK : Option Addr) (nK cK : Nat) : Prop where
 x : w.cell? ⟨Bx, 8, none⟩ = some (.slice aX nX cX)
 f : w.cell? ⟨Bf, 1, none⟩ = some (.string ty)
 y : w.cell? ⟨By, 8, none⟩ = some lv
 k : KBx w g o kind neg V bits text aL nL cL aK nK cK
theorem NrZ.all {w : World} {Bx Bf By g o : Nat} {aX : Option Addr} {nX cX : Nat} {ty : ByteArray} {lv : Value} {kind : Int} {neg : Bool} {V bits : Nat} {text : ByteArray} {aL : Option Addr} {nL cL : Nat} {aK : Option Addr} {nK cK : Nat} (h : NrZ w Bx Bf By g o aX nX cX ty lv kind neg V bits text aL nL cL aK nK cK) :
  w.cell? ⟨Bx, 8, none⟩ = some (.slice aX nX cX) ∧ w.cell? ⟨Bf, 1, none⟩ = some (.string ty) ∧ w.cell? ⟨By, 8, none⟩ = some lv ∧ w.cell? ⟨g, o, none⟩ = some (.int .i64 kind) ∧ w.cell? ⟨g, o + 1, none⟩ = some (.bool neg) ∧ w.cell? ⟨g, o + 2, none⟩ = some (.int .u64 (lm V 0 : Nat)) ∧ w.cell? ⟨g, o + 3, none⟩ = some (.int .u64 (lm V 1 : Nat)) ∧ w.cell? ⟨g, o + 4, none⟩ = some (.int .u64 (lm V 2 : Nat)) ∧
  w.cell? ⟨g, o + 5, none⟩ = some (.int .u64 (lm V 3 : Nat)) ∧ w.cell? ⟨g, o + 6, none⟩ = some (.int .u64 (bits : Nat)) ∧ w.cell? ⟨g, o + 7, none⟩ = some (.string text) ∧ w.cell? ⟨g, o + 8, none⟩ = some (.slice aL nL cL) ∧ w.cell? ⟨g, o + 9, none⟩ = some (.slice aK nK cK) := by
 obtain ⟨h0, h1, h2, h3, h4, h5, h6, h7, h8, h9⟩ := h.k.all
 exact ⟨h.x, h.f, h.y, h0, h1, h2, h3, h4, h5, h6, h7, h8, h9⟩
theorem NrZ.below {w w' : World} {Bx Bf By g o : Nat} {aX : Option Addr} {nX cX : Nat} {ty : ByteArray} {lv : Value} {kind : Int} {neg : Bool} {V bits : Nat} {text : ByteArray} {aL : Option Addr} {nL cL : Nat} {aK : Option Addr} {nK cK : Nat} (h : NrZ w Bx Bf By g o aX nX cX ty lv kind neg V bits text aL nL cL aK nK cK) (hb : Below w.heap.size w w') : NrZ w' Bx Bf By g o aX nX cX ty lv kind neg V bits text aL nL cL aK nK cK :=
 ⟨keep_cell hb h.x, keep_cell hb h.f, keep_cell hb h.y, h.k.below hb⟩
theorem NrZ.grown {w w' : World} {r : Option Nat} {Bx Bf By g o : Nat} {aX : Option Addr} {nX cX : Nat} {ty : ByteArray} {lv : Value} {kind : Int} {neg : Bool} {V bits : Nat} {text : ByteArray} {aL : Option Addr} {nL cL : Nat} {aK : Option Addr} {nK cK : Nat} (h : NrZ w Bx Bf By g o aX nX cX ty lv kind neg V bits text aL nL cL aK nK cK) (hg : w.grownBy w' r) (h1 : some Bx ≠ r) (h2 : some Bf ≠ r) (h3 : some By ≠ r) (h4 : some g ≠ r) : NrZ w' Bx Bf By g o aX nX cX ty lv kind neg V bits text aL nL cL aK nK cK := by
 obtain ⟨k0, k1, k2, k3, k4, k5, k6, k7, k8, k9⟩ := h.k.all
 exact ⟨hg.cell h.x h1, hg.cell h.f h2, hg.cell h.y h3, ⟨⟨hg.cell k0 h4, hg.cell k1 h4, hg.cell k2 h4, hg.cell k3 h4, hg.cell k4 h4, hg.cell k5 h4, hg.cell k6 h4, hg.cell k7 h4, hg.cell k8 h4, hg.cell k9 h4⟩⟩⟩
end Go.Proofs.YtfondldmmcmloaaGreatDoor
namespace Go.Proofs.YtfondldmmcmloaaGreatDoor
open Go.RowKit
set_option maxRecDepth 20000 in
set_option maxHeartbeats 4000000 in
theorem PNorm_yes (M : Nat → PM) (a : Option Addr) (n c : Nat) (kind : Int) (neg : Bool) (V bits : Nat) (text : ByteArray) (aL : Option Addr) (nL cL : Nat) (kids : Nat → VT) (aK : Option Addr) (nK cK : Nat) (keys : Nat → ByteArray) (w : World) (hL : PL w a n c M) (hin : VT.In w (.mk kind neg V bits text aL nL cL kids aK nK cK keys)) (hv : validB M n (.mk kind neg V bits text aL nL cL kids aK nK cK keys) = true) (hN : PNrm M a n c (.mk kind neg V bits text aL nL cL kids aK nK cK keys))
  (C1 : Hid (∀ wr : World, Below w.heap.size w wr → Calls Tryz.prog 11 #[.slice a n c, .agg #[.int .i64 kind, .bool neg, .int .u64 (lm V 0 : Nat), .int .u64 (lm V 1 : Nat), .int .u64 (lm V 2 : Nat), .int .u64 (lm V 3 : Nat), .int .u64 (bits : Nat), .string text, .slice aL nL cL, .slice aK nK cK]] wr fun e w' => e = .returned (.bool true) ∧ Below wr.heap.size wr w')) :
  Calls Tryz.prog 9 #[.slice a n c, VT.agg (.mk kind neg V bits text aL nL cL kids aK nK cK keys)] w fun e w' => ∃ t : VT, e = .returned (.tuple #[t.agg, .bool true]) ∧ NrT w w' (.mk kind neg V bits text aL nL cL kids aK nK cK keys) ((nrm2 M n (.mk kind neg V bits text aL nL cL kids aK nK cK keys)).msg (M 0)) t ∧ Below w.heap.size w w' := by
 have HL := Lib.hid hL
 have HIN := Lib.hid hin
 have hv2 := hv
 unfold validB at hv2
 rw [Bool.and_eq_true, Bool.and_eq_true, decide_eq_true_eq] at hv2
 obtain ⟨hck, hmy, hmsg⟩ := hv2
 have hpos := check_pos hck
 obtain ⟨-, -, hlg, hrt⟩ := may_right hmy
 have C3 := Lib.hid fun wx (hx : Below w.heap.size w wx) => hN 0 wx hpos (HL.out.below hx) (VT.In.below hx _ HIN.out) hrt hlg hmsg
 obtain ⟨b, off, ea, -, hm4, -⟩ := m_lit hL hpos (Below.refl _ _)
 rw [Nat.zero_mul, Nat.add_zero] at hm4
 have HM4 := Lib.hid hm4
 have q5 := hL.l
 have q6 := hL.lc
 subst ea
 obtain ⟨m, hm⟩ : ∃ m, M 0 = m := ⟨_, rfl⟩
 rw [hm] at C3 HM4 ⊢
 unfold VT.agg VT.cells at C3 ⊢
 unfold PM.agg at C3
 simp only [maxLen] at q6
 have i1 : (0 : Int) < (n : Int) := by omega
 clear hL hin hv hN hck hmy hmsg hlg hrt hm4 hm
 go_enter Tryz.func9, Tryz.ntmps9
 go_upto_region 1 with fail
 have NW := Lib.hid (nd_start w 31 kind neg V bits text aL nL cL aK nK cK)
 generalize (w.alloc (.cells #[.int .i64 kind, .bool neg, .int .u64 (lm V 0 : Nat), .int .u64 (lm V 1 : Nat), .int .u64 (lm V 2 : Nat), .int .u64 (lm V 3 : Nat), .int .u64 (bits : Nat), .string text, .slice aL nL cL, .slice aK nK cK] 31)).alloc (.cells #[.int .i64 0, .bool false, .int .u64 0, .int .u64 0, .int .u64 0, .int .u64 0, .int .u64 0, .string ⟨#[]⟩, .slice none 0 0, .slice none 0 0] 31) = W at *
 obtain ⟨Bv, hBv⟩ : ∃ B, B = w.heap.size := ⟨_, rfl⟩
 obtain ⟨Br, hBr⟩ : ∃ B, B = w.heap.size + 1 := ⟨_, rfl⟩
 rw [← hBr, ← hBv] at NW ⊢
 clear hBr hBv
 obtain ⟨_, _, _, _, _, _, _, _, _, _⟩ := NW.out.v.all
 go_upto_region 3 with (go_at_call 11; with_reducible refine (C1.out _ NW.out.b).mono ?_; rintro e w1 ⟨rfl, hb1⟩)
 have V1 := Lib.hid (NW.out.v.below hb1)
 have R1 := Lib.hid (NW.out.r.below hb1)
 have hW1 := below_trans NW.out.b hb1
 have hm4 := HM4.out.below hW1
 obtain ⟨_, _, _, _⟩ := hm4.all
 obtain ⟨_, _, _, _, _, _, _, _, _, _⟩ := V1.out.all
 (refine still_tail 5 (by kernel_rfl) (by kernel_rfl) ?_; simp only [List.take_succ_cons, List.take_zero, List.drop_succ_cons, List.drop_zero]; (repeat still_step); refine wpStill_nil ?_)
 repeat any_goals (first | (go_at_call 18; with_reducible refine (C3.out _ (below_trans hW1 z25zb1)).mono ?_; rintro e w2 ⟨tt, rfl, hNT, hb2⟩; obtain ⟨kindt, negt, Vt, bitst, textt, aLt, nLt, cLt, kidst, aKt, nKt, cKt, keyst, rfl⟩ := VT.In.lit hNT.i; simp only; have hd2 : Below w1.heap.size w1 w2 := below_trans z25zb1 hb2; have R2 := Lib.hid (R1.out.below hd2); obtain ⟨_, _, _, _, _, _, _, _, _, _⟩ := R2.out.c.all; have hf1 := R2.out.f; have hl1 := R2.out.lt; have hr0 := NW.out.l; have hW2 := below_trans hW1 hd2; have hl2 : Br < w1.heap.size := R1.out.lt) | go_skip | go_guarded | go_step | go_upon | (dsimp only []))
 have hb : ∀ b, b ≠ Br → (((((((((((w2.setCell ⟨Br, 0, none⟩ (.int .i64 kindt)).setCell ⟨Br, 1, none⟩ (.bool negt)).setCell ⟨Br, 2, none⟩ (.int .u64 (lm Vt 0 : Nat))).setCell ⟨Br, 3, none⟩ (.int .u64 (lm Vt 1 : Nat))).setCell ⟨Br, 4, none⟩ (.int .u64 (lm Vt 2 : Nat))).setCell ⟨Br, 5, none⟩ (.int .u64 (lm Vt 3 : Nat))).setCell ⟨Br, 6, none⟩ (.int .u64 (bitst : Nat))).setCell ⟨Br, 7, none⟩ (.string textt)).setCell ⟨Br, 8, none⟩ (.slice aLt nLt cLt)).setCell ⟨Br, 9, none⟩ (.slice aKt nKt cKt))).heap[b]? = w2.heap[b]? := fun b hb => set10_block hb
 have hs10 : w2.heap.size ≤ (((((((((((w2.setCell ⟨Br, 0, none⟩ (.int .i64 kindt)).setCell ⟨Br, 1, none⟩ (.bool negt)).setCell ⟨Br, 2, none⟩ (.int .u64 (lm Vt 0 : Nat))).setCell ⟨Br, 3, none⟩ (.int .u64 (lm Vt 1 : Nat))).setCell ⟨Br, 4, none⟩ (.int .u64 (lm Vt 2 : Nat))).setCell ⟨Br, 5, none⟩ (.int .u64 (lm Vt 3 : Nat))).setCell ⟨Br, 6, none⟩ (.int .u64 (bitst : Nat))).setCell ⟨Br, 7, none⟩ (.string textt)).setCell ⟨Br, 8, none⟩ (.slice aLt nLt cLt)).setCell ⟨Br, 9, none⟩ (.slice aKt nKt cKt))).heap.size := by simp
 exact bodyPost_ret (v := .tuple #[.agg #[.int .i64 kindt, .bool negt, .int .u64 (lm Vt 0 : Nat), .int .u64 (lm Vt 1 : Nat), .int .u64 (lm Vt 2 : Nat), .int .u64 (lm Vt 3 : Nat), .int .u64 (bitst : Nat), .string textt, .slice aLt nLt cLt, .slice aKt nKt cKt], .bool true]) (by simp [results, Tryz.results9, go_sem, *]) rfl ⟨(.mk kindt negt Vt bitst textt aLt nLt cLt kidst aKt nKt cKt keyst), rfl, ⟨hNT.i.kept hs10 (fun b _ h => hb b h) (hNT.q (fun b => b ≠ Br) (HIN.out.blk.mono fun b (h : b < w.heap.size) => by omega) (fun b (h : w1.heap.size ≤ b) => by omega)), fun Q h0 h1 => hNT.q Q h0 (fun b (h : w1.heap.size ≤ b) => h1 b (Nat.le_trans hW1.size h)), hNT.s⟩, z25zb1⟩
end Go.Proofs.YtfondldmmcmloaaGreatDoor
namespace Go.Proofs.YtfondldmmcmloaaGreatDoor
open Go.RowKit
def zeroT : VT := .mk 0 false 0 0 ⟨#[]⟩ none 0 0 default none 0 0 default
theorem zeroT_in (w : World) : zeroT.In w := ⟨⟨by decide, by decide, by decide, by decide, Nat.zero_le _, Nat.le_refl _, Nat.zero_le _, Nat.le_refl _, Nat.zero_le _⟩, .inl rfl, fun i hi => absurd hi (Nat.not_lt_zero _), .inl rfl⟩
def NormQ (w : World) (T F : VT) (p : Bool) (e : Ending) (w' : World) : Prop :=
 ∃ t : VT, e = .returned (.tuple #[t.agg, .bool p]) ∧ t.In w' ∧ (p = true → NrT w w' T F t) ∧ (p = false → t = zeroT) ∧ Below w.heap.size w w'
end Go.Proofs.YtfondldmmcmloaaGreatDoor
namespace Go.Proofs.YtfondldmmcmloaaGreatDoor
open Go.RowKit
theorem PNormV_any (M : Nat → PM) (a : Option Addr) (n c : Nat) (T : VT) (w : World) (hL : PL w a n c M) (hin : T.In w) (hU : U8T w) (hT : Tab w) (hN : T.nodes < 4611686018427387904) :
  Calls Tryz.prog 9 #[.slice a n c, T.agg] w (NormQ w T ((nrm2 M n T).msg (M 0)) (validB M n T)) := by
 have C1 := Lib.hid fun wx (hx : Below w.heap.size w wx) => PValidM_any M a n c T wx (hL.below hx) (VT.In.below hx _ hin) (Utf8Tabs_below hU hx) (hT.below hx) hN
 by_cases hv : validB M n T = true
 ·rw [hv] at C1 ⊢
  have hck : checkB M n = true := by
   unfold validB at hv
   rw [Bool.and_eq_true] at hv
   exact hv.1
  have hNx := (pnorm_all M a n c (check_types hck) (check_noscal hck) T).1
  cases T with
  | nil => exact hin.elim
  | mk kind neg V bits text aL nL cL kids aK nK cK keys =>
   refine (PNorm_yes M a n c kind neg V bits text aL nL cL kids aK nK cK keys w hL hin hv hNx C1).mono ?_
   rintro e w' ⟨t, he, ht, hb⟩
   exact ⟨t, he, ht.i, fun _ => ht, fun h => (by cases h), hb⟩
 ·rw [Bool.not_eq_true] at hv
  rw [hv] at C1 ⊢
  cases T with
  | nil => exact hin.elim
  | mk kind neg V bits text aL nL cL kids aK nK cK keys =>
   refine (PNorm_no a n c kind neg V bits text aL nL cL aK nK cK w C1).mono ?_
   rintro e w' ⟨he, hb⟩
   exact ⟨zeroT, by rw [he]; simp [zeroT, VT.agg, VT.cells, lm_none], zeroT_in w', fun h => (by cases h), fun _ => rfl, hb⟩
end Go.Proofs.YtfondldmmcmloaaGreatDoor
namespace Go.Proofs.YtfondldmmcmloaaGreatDoor
open Go.RowKit
set_option maxRecDepth 20000 in
set_option maxHeartbeats 4000000 in
theorem Norms_few (a : Option Addr) (n c : Nat) (kind : Int) (neg : Bool) (V bits : Nat) (text : ByteArray) (aL : Option Addr) (nL cL : Nat) (aK : Option Addr) (nK cK : Nat) (f1 f2 : Bool) (hf : (f1 && f2) = false) (w : World)
  (C1 : Hid (∀ wr : World, Below w.heap.size w wr → Calls Tryz.prog 6 #[.slice a n c] wr fun e w' => e = .returned (.bool f1) ∧ Below wr.heap.size wr w'))
  (C2 : Hid (∀ wr : World, Below w.heap.size w wr → Calls Tryz.prog 7 #[.agg #[.int .i64 kind, .bool neg, .int .u64 (lm V 0 : Nat), .int .u64 (lm V 1 : Nat), .int .u64 (lm V 2 : Nat), .int .u64 (lm V 3 : Nat), .int .u64 (bits : Nat), .string text, .slice aL nL cL, .slice aK nK cK]] wr fun e w' => e = .returned (.bool f2) ∧ Below wr.heap.size wr w'))
  (CT : Hid (∀ wr : World, Below w.heap.size w wr → Calls Tryz.prog 8 #[] wr fun e w' => e = .returned (.bool true) ∧ Below wr.heap.size wr w')) :
  Calls Tryz.prog 4 #[.slice a n c, .agg #[.int .i64 kind, .bool neg, .int .u64 (lm V 0 : Nat), .int .u64 (lm V 1 : Nat), .int .u64 (lm V 2 : Nat), .int .u64 (lm V 3 : Nat), .int .u64 (bits : Nat), .string text, .slice aL nL cL, .slice aK nK cK]] w fun e w' => e = .returned (.bool true) ∧ Below w.heap.size w w' := by
 have V0 := Lib.hid (vbx_new w 31 kind neg V bits text aL nL cL aK nK cK)
 cases f1 with
 | false =>
  go_enter Tryz.func4, Tryz.ntmps4
  repeat any_goals (first | (go_at_call 6; refine (C1.out _ z25zb1).mono ?_; rintro e w1 ⟨rfl, hb1⟩) | (go_at_call 8; refine (CT.out _ z25zb1).mono ?_; rintro e w3 ⟨rfl, hb3⟩) | go_skip | go_guarded | go_step | go_upon | (dsimp only []))
  exact bodyPost_ret (v := .bool true) (by simp [results, Tryz.results4, go_sem]) rfl ⟨rfl, z25zb1⟩
 | true =>
  obtain rfl : f2 = false := hf
  go_enter Tryz.func4, Tryz.ntmps4
  repeat any_goals (first | (go_at_call 6; with_reducible refine (C1.out _ z25zb1).mono ?_; rintro e w1 ⟨rfl, hb1⟩; (first | have V1 := Lib.hid (V0.out.below hb1) | have V1 := Lib.hid (V0.out.step hb1)); obtain ⟨_, _, _, _, _, _, _, _, _, _⟩ := V1.out.all) | (go_at_call 7; refine (C2.out _ z25zb1).mono ?_; rintro e w2 ⟨rfl, hb2⟩) | (go_at_call 8; refine (CT.out _ z25zb1).mono ?_; rintro e w3 ⟨rfl, hb3⟩) | go_skip | go_guarded | go_step | go_upon | (dsimp only []))
  exact bodyPost_ret (v := .bool true) (by simp [results, Tryz.results4, go_sem]) rfl ⟨rfl, z25zb1⟩
theorem zeroT_agg : zeroT.agg = .agg #[.int .i64 0, .bool false, .int .u64 0, .int .u64 0, .int .u64 0, .int .u64 0, .int .u64 0, .string ⟨#[]⟩, .slice none 0 0, .slice none 0 0] := by simp [zeroT, VT.agg, VT.cells, lm_none]
set_option maxRecDepth 20000 in
set_option maxHeartbeats 8000000 in
theorem Norms_no (a : Option Addr) (n c : Nat) (kind : Int) (neg : Bool) (V bits : Nat) (text : ByteArray) (aL : Option Addr) (nL cL : Nat) (kids : Nat → VT) (aK : Option Addr) (nK cK : Nat) (keys : Nat → ByteArray) (F : VT) (w : World)
  (C1 : Hid (∀ wr : World, Below w.heap.size w wr → Calls Tryz.prog 6 #[.slice a n c] wr fun e w' => e = .returned (.bool true) ∧ Below wr.heap.size wr w'))
  (C2 : Hid (∀ wr : World, Below w.heap.size w wr → Calls Tryz.prog 7 #[.agg #[.int .i64 kind, .bool neg, .int .u64 (lm V 0 : Nat), .int .u64 (lm V 1 : Nat), .int .u64 (lm V 2 : Nat), .int .u64 (lm V 3 : Nat), .int .u64 (bits : Nat), .string text, .slice aL nL cL, .slice aK nK cK]] wr fun e w' => e = .returned (.bool true) ∧ Below wr.heap.size wr w'))
  (C3 : Hid (∀ wr : World, Below w.heap.size w wr → Calls Tryz.prog 9 #[.slice a n c, .agg #[.int .i64 kind, .bool neg, .int .u64 (lm V 0 : Nat), .int .u64 (lm V 1 : Nat), .int .u64 (lm V 2 : Nat), .int .u64 (lm V 3 : Nat), .int .u64 (bits : Nat), .string text, .slice aL nL cL, .slice aK nK cK]] wr (NormQ wr (.mk kind neg V bits text aL nL cL kids aK nK cK keys) F false)))
  (C5 : Hid (∀ wr : World, Below w.heap.size w wr → Calls Tryz.prog 11 #[.slice a n c, .agg #[.int .i64 kind, .bool neg, .int .u64 (lm V 0 : Nat), .int .u64 (lm V 1 : Nat), .int .u64 (lm V 2 : Nat), .int .u64 (lm V 3 : Nat), .int .u64 (bits : Nat), .string text, .slice aL nL cL, .slice aK nK cK]] wr fun e w' => e = .returned (.bool false) ∧ Below wr.heap.size wr w'))
  (CT : Hid (∀ wr : World, Below w.heap.size w wr → Calls Tryz.prog 8 #[] wr fun e w' => e = .returned (.bool true) ∧ Below wr.heap.size wr w')) :
  Calls Tryz.prog 4 #[.slice a n c, .agg #[.int .i64 kind, .bool neg, .int .u64 (lm V 0 : Nat), .int .u64 (lm V 1 : Nat), .int .u64 (lm V 2 : Nat), .int .u64 (lm V 3 : Nat), .int .u64 (bits : Nat), .string text, .slice aL nL cL, .slice aK nK cK]] w fun e w' => e = .returned (.bool true) ∧ Below w.heap.size w w' := by
 have CS := Lib.hid fun wx => (by
  have h := RSame_any zeroT zeroT wx (zeroT_in wx) (zeroT_in wx)
  rwa [show VT.sameB zeroT zeroT = true from Sim.self (zeroT_in wx), zeroT_agg] at h :
  Calls Tryz.prog 13 #[.agg #[.int .i64 0, .bool false, .int .u64 0, .int .u64 0, .int .u64 0, .int .u64 0, .int .u64 0, .string ⟨#[]⟩, .slice none 0 0, .slice none 0 0], .agg #[.int .i64 0, .bool false, .int .u64 0, .int .u64 0, .int .u64 0, .int .u64 0, .int .u64 0, .string ⟨#[]⟩, .slice none 0 0, .slice none 0 0]] wx fun e w' => e = .returned (.bool true) ∧ Below wx.heap.size wx w')
 go_enter Tryz.func4, Tryz.ntmps4
 go_upto_region 1 with fail
 have V0 := Lib.hid (vbx_new w 31 kind neg V bits text aL nL cL aK nK cK)
 have hW0 := below_alloc (Below.refl w.heap.size w) (.cells #[.int .i64 kind, .bool neg, .int .u64 (lm V 0 : Nat), .int .u64 (lm V 1 : Nat), .int .u64 (lm V 2 : Nat), .int .u64 (lm V 3 : Nat), .int .u64 (bits : Nat), .string text, .slice aL nL cL, .slice aK nK cK] 31)
 generalize w.alloc (.cells #[.int .i64 kind, .bool neg, .int .u64 (lm V 0 : Nat), .int .u64 (lm V 1 : Nat), .int .u64 (lm V 2 : Nat), .int .u64 (lm V 3 : Nat), .int .u64 (bits : Nat), .string text, .slice aL nL cL, .slice aK nK cK] 31) = w0 at *
 obtain ⟨B0, hB0⟩ : ∃ B, B = w.heap.size := ⟨_, rfl⟩
 rw [← hB0] at V0 ⊢
 clear hB0
 go_upto_region 3 with (first | (go_at_call 6; with_reducible refine (C1.out _ hW0).mono ?_; rintro e w1 ⟨rfl, hb1⟩; (first | have V1 := Lib.hid (V0.out.below hb1) | have V1 := Lib.hid (V0.out.step hb1)); obtain ⟨_, _, _, _, _, _, _, _, _, _⟩ := V1.out.all) | (go_at_call 7; with_reducible refine (C2.out _ (below_trans hW0 hb1)).mono ?_; rintro e w2 ⟨rfl, hb2⟩; (first | have V2 := Lib.hid (V1.out.below hb2) | have V2 := Lib.hid (V1.out.step hb2)); obtain ⟨_, _, _, _, _, _, _, _, _, _⟩ := V2.out.all))
 have hW2 := below_trans hW0 (below_trans hb1 hb2)
 go_upto_region 4 with (go_at_call 9; (with_reducible refine (C3.out _ hW2).mono ?_); rintro e w3 ⟨ta, rfl, -, -, hz3, hb3⟩; obtain rfl := hz3 rfl; rw [zeroT_agg])
 have V3 := Lib.hid (V2.out.below hb3)
 have A3 := Lib.hid (wbx_new w3 31 (.int .i64 0) (.bool false) (.int .u64 0) (.int .u64 0) (.int .u64 0) (.int .u64 0) (.int .u64 0) (.string ⟨#[]⟩) (.slice none 0 0) (.slice none 0 0))
 have hV4 := below_alloc (Below.refl w3.heap.size w3) (.cells #[.int .i64 0, .bool false, .int .u64 0, .int .u64 0, .int .u64 0, .int .u64 0, .int .u64 0, .string ⟨#[]⟩, .slice none 0 0, .slice none 0 0] 31)
 generalize w3.alloc (.cells #[.int .i64 0, .bool false, .int .u64 0, .int .u64 0, .int .u64 0, .int .u64 0, .int .u64 0, .string ⟨#[]⟩, .slice none 0 0, .slice none 0 0] 31) = w4 at *
 obtain ⟨B1, hB1⟩ : ∃ B, B = w3.heap.size := ⟨_, rfl⟩
 rw [← hB1] at A3 ⊢
 clear hB1
 have V4 := Lib.hid (V3.out.below hV4)
 have hW4 := below_trans hW2 (below_trans hb3 hV4)
 obtain ⟨_, _, _, _, _, _, _, _, _, _⟩ := V4.out.all
 repeat any_goals (first | (go_at_call 11; with_reducible refine (C5.out _ hW4).mono ?_; rintro e w5 ⟨rfl, hb5⟩; have A5 := Lib.hid (A3.out.below hb5); have hW5 := below_trans hW4 hb5) | (go_at_call 8; with_reducible refine (CT.out _ hW5).mono ?_; rintro e w6 ⟨rfl, hb6⟩; have A6 := Lib.hid (A5.out.below hb6); obtain ⟨_, _, _, _, _, _, _, _, _, _⟩ := A6.out.c.all; have hW6 := below_trans hW5 hb6) | (go_at_call 13; with_reducible refine (CS.out _).mono ?_; rintro e w7 ⟨rfl, hb7⟩) | go_skip | go_guarded | go_step | go_upon | (dsimp only []))
 exact bodyPost_ret (v := .bool true) (by simp [results, Tryz.results4, go_sem]) rfl ⟨rfl, below_trans hW6 hb7⟩
set_option maxRecDepth 20000 in
set_option maxHeartbeats 8000000 in
theorem Norms_yes (a : Option Addr) (n c : Nat) (kind : Int) (neg : Bool) (V bits : Nat) (text : ByteArray) (aL : Option Addr) (nL cL : Nat) (kids : Nat → VT) (aK : Option Addr) (nK cK : Nat) (keys : Nat → ByteArray) (F : VT) (N : Nat) (hNF : F.nodes ≤ N) (_hN0 : N < 4611686018427387904) (w : World)
  (C1 : Hid (∀ wr : World, Below w.heap.size w wr → Calls Tryz.prog 6 #[.slice a n c] wr fun e w' => e = .returned (.bool true) ∧ Below wr.heap.size wr w'))
  (C2 : Hid (∀ wr : World, Below w.heap.size w wr → Calls Tryz.prog 7 #[.agg #[.int .i64 kind, .bool neg, .int .u64 (lm V 0 : Nat), .int .u64 (lm V 1 : Nat), .int .u64 (lm V 2 : Nat), .int .u64 (lm V 3 : Nat), .int .u64 (bits : Nat), .string text, .slice aL nL cL, .slice aK nK cK]] wr fun e w' => e = .returned (.bool true) ∧ Below wr.heap.size wr w'))
  (C3 : Hid (∀ wr : World, Below w.heap.size w wr → Calls Tryz.prog 9 #[.slice a n c, .agg #[.int .i64 kind, .bool neg, .int .u64 (lm V 0 : Nat), .int .u64 (lm V 1 : Nat), .int .u64 (lm V 2 : Nat), .int .u64 (lm V 3 : Nat), .int .u64 (bits : Nat), .string text, .slice aL nL cL, .slice aK nK cK]] wr (NormQ wr (.mk kind neg V bits text aL nL cL kids aK nK cK keys) F true)))
  (C5 : Hid (∀ wr : World, Below w.heap.size w wr → Calls Tryz.prog 11 #[.slice a n c, .agg #[.int .i64 kind, .bool neg, .int .u64 (lm V 0 : Nat), .int .u64 (lm V 1 : Nat), .int .u64 (lm V 2 : Nat), .int .u64 (lm V 3 : Nat), .int .u64 (bits : Nat), .string text, .slice aL nL cL, .slice aK nK cK]] wr fun e w' => e = .returned (.bool true) ∧ Below wr.heap.size wr w'))
  (CT : Hid (∀ wr : World, Below w.heap.size w wr → Calls Tryz.prog 8 #[] wr fun e w' => e = .returned (.bool true) ∧ Below wr.heap.size wr w'))
  (CN : Hid (∀ (t : VT) (wr : World), Below w.heap.size w wr → t.In wr → Sim t F → Calls Tryz.prog 9 #[.slice a n c, t.agg] wr fun e w' => ∃ t3 : VT, e = .returned (.tuple #[t3.agg, .bool true]) ∧ t3.In w' ∧ Sim t3 t ∧ Below wr.heap.size wr w'))
  (CV : Hid (∀ (t : VT) (wr : World), Below w.heap.size w wr → t.In wr → Sim t F → Calls Tryz.prog 11 #[.slice a n c, t.agg] wr fun e w' => e = .returned (.bool true) ∧ Below wr.heap.size wr w'))
  (CD : Hid (∀ (t : VT) (wr : World), t.In wr → Sim t F → Calls Tryz.prog 14 #[t.agg] wr fun e w' => e = .returned (.int .i64 (F.nodes : Nat)) ∧ Below wr.heap.size wr w'))
  (CE : Hid (∀ wr : World, Below w.heap.size w wr → Calls Tryz.prog 14 #[.agg #[.int .i64 kind, .bool neg, .int .u64 (lm V 0 : Nat), .int .u64 (lm V 1 : Nat), .int .u64 (lm V 2 : Nat), .int .u64 (lm V 3 : Nat), .int .u64 (bits : Nat), .string text, .slice aL nL cL, .slice aK nK cK]] wr fun e w' => e = .returned (.int .i64 (N : Nat)) ∧ Below wr.heap.size wr w'))
  (CM : Hid (∀ (t : VT) (wr : World), t.In wr → Sim t F → Calls Tryz.prog 15 #[t.agg] wr fun e w' => e = .returned (.int .i64 0) ∧ Below wr.heap.size wr w')) :
  Calls Tryz.prog 4 #[.slice a n c, .agg #[.int .i64 kind, .bool neg, .int .u64 (lm V 0 : Nat), .int .u64 (lm V 1 : Nat), .int .u64 (lm V 2 : Nat), .int .u64 (lm V 3 : Nat), .int .u64 (bits : Nat), .string text, .slice aL nL cL, .slice aK nK cK]] w fun e w' => e = .returned (.bool true) ∧ Below w.heap.size w w' := by
 go_enter Tryz.func4, Tryz.ntmps4
 go_upto_region 1 with fail
 have V0 := Lib.hid (vbx_new w 31 kind neg V bits text aL nL cL aK nK cK)
 have hW0 := below_alloc (Below.refl w.heap.size w) (.cells #[.int .i64 kind, .bool neg, .int .u64 (lm V 0 : Nat), .int .u64 (lm V 1 : Nat), .int .u64 (lm V 2 : Nat), .int .u64 (lm V 3 : Nat), .int .u64 (bits : Nat), .string text, .slice aL nL cL, .slice aK nK cK] 31)
 generalize w.alloc (.cells #[.int .i64 kind, .bool neg, .int .u64 (lm V 0 : Nat), .int .u64 (lm V 1 : Nat), .int .u64 (lm V 2 : Nat), .int .u64 (lm V 3 : Nat), .int .u64 (bits : Nat), .string text, .slice aL nL cL, .slice aK nK cK] 31) = w0 at *
 obtain ⟨B0, hB0⟩ : ∃ B, B = w.heap.size := ⟨_, rfl⟩
 rw [← hB0] at V0 ⊢
 clear hB0
 go_upto_region 3 with (first | (go_at_call 6; with_reducible refine (C1.out _ hW0).mono ?_; rintro e w1 ⟨rfl, hb1⟩; (first | have V1 := Lib.hid (V0.out.below hb1) | have V1 := Lib.hid (V0.out.step hb1)); obtain ⟨_, _, _, _, _, _, _, _, _, _⟩ := V1.out.all) | (go_at_call 7; with_reducible refine (C2.out _ (below_trans hW0 hb1)).mono ?_; rintro e w2 ⟨rfl, hb2⟩; (first | have V2 := Lib.hid (V1.out.below hb2) | have V2 := Lib.hid (V1.out.step hb2)); obtain ⟨_, _, _, _, _, _, _, _, _, _⟩ := V2.out.all))
 have hW2 := below_trans hW0 (below_trans hb1 hb2)
 go_upto_region 4 with (go_at_call 9; (with_reducible refine (C3.out _ hW2).mono ?_); rintro e w3 ⟨ta, rfl, hi3, hp3, -, hb3⟩; have hs3 := (hp3 rfl).s; clear hp3; obtain ⟨kinda, nega, Va, bitsa, texta, aLa, nLa, cLa, kidsa, aKa, nKa, cKa, keysa, rfl⟩ := VT.In.lit hi3; simp only [VT.agg, VT.cells])
 have V3 := Lib.hid (V2.out.below hb3)
 have A3 := Lib.hid (vbx_new w3 31 kinda nega Va bitsa texta aLa nLa cLa aKa nKa cKa)
 have hV4 := below_alloc (Below.refl w3.heap.size w3) (.cells #[.int .i64 kinda, .bool nega, .int .u64 (lm Va 0 : Nat), .int .u64 (lm Va 1 : Nat), .int .u64 (lm Va 2 : Nat), .int .u64 (lm Va 3 : Nat), .int .u64 (bitsa : Nat), .string texta, .slice aLa nLa cLa, .slice aKa nKa cKa] 31)
 generalize w3.alloc (.cells #[.int .i64 kinda, .bool nega, .int .u64 (lm Va 0 : Nat), .int .u64 (lm Va 1 : Nat), .int .u64 (lm Va 2 : Nat), .int .u64 (lm Va 3 : Nat), .int .u64 (bitsa : Nat), .string texta, .slice aLa nLa cLa, .slice aKa nKa cKa] 31) = w4 at *
 obtain ⟨B1, hB1⟩ : ∃ B, B = w3.heap.size := ⟨_, rfl⟩
 rw [← hB1] at A3 ⊢
 clear hB1
 have V4 := Lib.hid (V3.out.below hV4)
 have hW4 := below_trans hW2 (below_trans hb3 hV4)
 have HI4 := Lib.hid (VT.In.below hV4 _ hi3)
 have HS3 := Lib.hid hs3
 have D1 := Lib.hid fun wx (hx : Below w.heap.size w wx) (h4 : Below w4.heap.size w4 wx) => CN.out _ wx hx (VT.In.below h4 _ HI4.out) HS3.out
 have D2 := Lib.hid fun wx (hx : Below w.heap.size w wx) (h4 : Below w4.heap.size w4 wx) => CV.out _ wx hx (VT.In.below h4 _ HI4.out) HS3.out
 have D3 := Lib.hid fun wx (h4 : Below w4.heap.size w4 wx) => CD.out _ wx (VT.In.below h4 _ HI4.out) HS3.out
 have D4 := Lib.hid fun wx (h4 : Below w4.heap.size w4 wx) => CM.out _ wx (VT.In.below h4 _ HI4.out) HS3.out
 obtain ⟨K, hK⟩ : ∃ K, F.nodes = K := ⟨_, rfl⟩
 rw [hK] at D3 hNF
 unfold VT.agg VT.cells at D1 D2 D3 D4
 obtain ⟨_, _, _, _, _, _, _, _, _, _⟩ := V4.out.all
 clear hK hs3 hi3 V0 V1 V2 V3 C1 C2 C3 CN CV CD CM
 go_upto_region 9 with (first | (go_at_call 11; with_reducible refine (C5.out _ hW4).mono ?_; rintro e w5 ⟨rfl, hb5⟩; have A5 := Lib.hid (A3.out.below hb5); have V5 := Lib.hid (V4.out.below hb5); have hW5 := below_trans hW4 hb5; obtain ⟨_, _, _, _, _, _, _, _, _, _⟩ := A5.out.all) | (go_at_call 9; with_reducible refine (D1.out _ hW5 hb5).mono ?_; rintro e w6 ⟨tb, rfl, hi6, hs6, hb6⟩; obtain ⟨kindb, negb, Vb, bitsb, textb, aLb, nLb, cLb, kidsb, aKb, nKb, cKb, keysb, rfl⟩ := VT.In.lit hi6; simp only))
 have V6 := Lib.hid (V5.out.below hb6)
 have A6 := Lib.hid (A5.out.below hb6)
 have B6 := Lib.hid (vbx_new w6 31 kindb negb Vb bitsb textb aLb nLb cLb aKb nKb cKb)
 have hV7 := below_alloc (Below.refl w6.heap.size w6) (.cells #[.int .i64 kindb, .bool negb, .int .u64 (lm Vb 0 : Nat), .int .u64 (lm Vb 1 : Nat), .int .u64 (lm Vb 2 : Nat), .int .u64 (lm Vb 3 : Nat), .int .u64 (bitsb : Nat), .string textb, .slice aLb nLb cLb, .slice aKb nKb cKb] 31)
 generalize w6.alloc (.cells #[.int .i64 kindb, .bool negb, .int .u64 (lm Vb 0 : Nat), .int .u64 (lm Vb 1 : Nat), .int .u64 (lm Vb 2 : Nat), .int .u64 (lm Vb 3 : Nat), .int .u64 (bitsb : Nat), .string textb, .slice aLb nLb cLb, .slice aKb nKb cKb] 31) = w7 at *
 obtain ⟨B2, hB2⟩ : ∃ B, B = w6.heap.size := ⟨_, rfl⟩
 rw [← hB2] at B6 ⊢
 clear hB2
 have V7 := Lib.hid (V6.out.below hV7)
 have A7 := Lib.hid (A6.out.below hV7)
 have h47 := below_trans hb5 (below_trans hb6 hV7)
 have hW7 := below_trans hW4 h47
 have hi7 := VT.In.below hV7 _ hi6
 have CS := Lib.hid fun wx (hx : Below w7.heap.size w7 wx) => (by
  have h := RSame_any (.mk kinda nega Va bitsa texta aLa nLa cLa kidsa aKa nKa cKa keysa) (.mk kindb negb Vb bitsb textb aLb nLb cLb kidsb aKb nKb cKb keysb) wx (VT.In.below (below_trans h47 hx) _ HI4.out) (VT.In.below hx _ hi7)
  rwa [show VT.sameB (.mk kinda nega Va bitsa texta aLa nLa cLa kidsa aKa nKa cKa keysa) (.mk kindb negb Vb bitsb textb aLb nLb cLb kidsb aKb nKb cKb keysb) = true from hs6.symm] at h :
  Calls Tryz.prog 13 #[VT.agg (.mk kinda nega Va bitsa texta aLa nLa cLa kidsa aKa nKa cKa keysa), VT.agg (.mk kindb negb Vb bitsb textb aLb nLb cLb kidsb aKb nKb cKb keysb)] wx fun e w' => e = .returned (.bool true) ∧ Below wx.heap.size wx w')
 unfold VT.agg VT.cells at CS
 have hle : (K : Int) ≤ (N : Int) := by omega
 clear hi6 hi7 hs6 V4 V5 V6 A3 A5 A6 HI4 HS3 D1
 (obtain ⟨C_, hC⟩ : ∃ C : World → Prop, C = fun w' => Below (w7).heap.size (w7) w' := ⟨_, rfl⟩; have HC := Lib.hid hC; have hne : ∀ p : Prop, (∀ w1 : World, C_ w1 → p) = p := fun p => propext ⟨fun h => h (w7) (by rw [hC]; exact Below.refl _ _), fun h _ _ => h⟩; clear hC; refine wp_region_quiet_cls (C := C_) (by kernel_rfl) (by kernel_rfl) (by rw [HC.out]; exact (Below.refl _ _).drew) ?_)
 (go_big_quiet_want; go_big_quiet_op; refine ⟨.bool true, fun w1 hw1 => ?_, ?_⟩; (rw [HC.out] at hw1 ⊢; with_reducible refine (CT.out _ (below_trans hW7 hw1)).mono ?_; rintro e w4 ⟨rfl, hb4⟩; exact ⟨rfl, below_trans hw1 hb4⟩); go_big_quiet_on)
 (go_big_quiet_want; go_big_quiet_op; go_big_quiet_on)
 (go_big_quiet_want; go_big_quiet_op; go_big_quiet_on)
 (go_big_quiet_want; go_big_quiet_op; go_big_quiet_on)
 (go_big_quiet_want; go_big_quiet_op; go_big_quiet_on)
 (go_big_quiet_want; go_big_quiet_op; go_big_quiet_on)
 (go_big_quiet_want; refine ⟨.agg #[.int .i64 kinda, .bool nega, .int .u64 (lm Va 0 : Nat), .int .u64 (lm Va 1 : Nat), .int .u64 (lm Va 2 : Nat), .int .u64 (lm Va 3 : Nat), .int .u64 (bitsa : Nat), .string texta, .slice aLa nLa cLa, .slice aKa nKa cKa], fun w1 hw1 => ?_, ?_⟩; (rw [HC.out] at hw1; obtain ⟨_, _, _, _, _⟩ := (A7.out.below hw1).all; simp [Oper.quietAt, go_sem, *]); refine z25zs1 ?_; go_big_quiet_on)
 (go_big_quiet_want; go_big_quiet_op; refine ⟨.bool true, fun w1 hw1 => ?_, ?_⟩; (rw [HC.out] at hw1 ⊢; with_reducible refine (D2.out _ (below_trans hW7 hw1) (below_trans h47 hw1)).mono ?_; rintro e w4 ⟨rfl, hb4⟩; exact ⟨rfl, below_trans hw1 hb4⟩); go_big_quiet_on)
 (go_big_quiet_want; go_big_quiet_op; go_big_quiet_on)
 (go_big_quiet_want; go_big_quiet_op; go_big_quiet_on)
 (go_big_quiet_want; refine ⟨.agg #[.int .i64 kinda, .bool nega, .int .u64 (lm Va 0 : Nat), .int .u64 (lm Va 1 : Nat), .int .u64 (lm Va 2 : Nat), .int .u64 (lm Va 3 : Nat), .int .u64 (bitsa : Nat), .string texta, .slice aLa nLa cLa, .slice aKa nKa cKa], fun w1 hw1 => ?_, ?_⟩; (rw [HC.out] at hw1; obtain ⟨_, _, _, _, _⟩ := (A7.out.below hw1).all; simp [Oper.quietAt, go_sem, *]); refine z25zs1 ?_; go_big_quiet_on)
 (go_big_quiet_want; refine ⟨.agg #[.int .i64 kindb, .bool negb, .int .u64 (lm Vb 0 : Nat), .int .u64 (lm Vb 1 : Nat), .int .u64 (lm Vb 2 : Nat), .int .u64 (lm Vb 3 : Nat), .int .u64 (bitsb : Nat), .string textb, .slice aLb nLb cLb, .slice aKb nKb cKb], fun w1 hw1 => ?_, ?_⟩; (rw [HC.out] at hw1; obtain ⟨_, _, _, _, _⟩ := (B6.out.below hw1).all; simp [Oper.quietAt, go_sem, *]); refine z25zs1 ?_; go_big_quiet_on)
 (go_big_quiet_want; go_big_quiet_op; refine ⟨.bool true, fun w1 hw1 => ?_, ?_⟩; (rw [HC.out] at hw1 ⊢; with_reducible refine (CS.out _ hw1).mono ?_; rintro e w4 ⟨rfl, hb4⟩; exact ⟨rfl, below_trans hw1 hb4⟩); go_big_quiet_on)
 (go_big_quiet_want; go_big_quiet_op; go_big_quiet_on)
 (go_big_quiet_want; go_big_quiet_op; go_big_quiet_on)
 (go_big_quiet_want; refine ⟨.agg #[.int .i64 kinda, .bool nega, .int .u64 (lm Va 0 : Nat), .int .u64 (lm Va 1 : Nat), .int .u64 (lm Va 2 : Nat), .int .u64 (lm Va 3 : Nat), .int .u64 (bitsa : Nat), .string texta, .slice aLa nLa cLa, .slice aKa nKa cKa], fun w1 hw1 => ?_, ?_⟩; (rw [HC.out] at hw1; obtain ⟨_, _, _, _, _⟩ := (A7.out.below hw1).all; simp [Oper.quietAt, go_sem, *]); refine z25zs1 ?_; go_big_quiet_on)
 (go_big_quiet_want; go_big_quiet_op; refine ⟨.int .i64 (K : Nat), fun w1 hw1 => ?_, ?_⟩; (rw [HC.out] at hw1 ⊢; with_reducible refine (D3.out _ (below_trans h47 hw1)).mono ?_; rintro e w4 ⟨rfl, hb4⟩; exact ⟨rfl, below_trans hw1 hb4⟩); go_big_quiet_on)
 (go_big_quiet_want; refine ⟨.agg #[.int .i64 kind, .bool neg, .int .u64 (lm V 0 : Nat), .int .u64 (lm V 1 : Nat), .int .u64 (lm V 2 : Nat), .int .u64 (lm V 3 : Nat), .int .u64 (bits : Nat), .string text, .slice aL nL cL, .slice aK nK cK], fun w1 hw1 => ?_, ?_⟩; (rw [HC.out] at hw1; obtain ⟨_, _, _, _, _⟩ := (V7.out.below hw1).all; simp [Oper.quietAt, go_sem, *]); refine z25zs1 ?_; go_big_quiet_on)
 (go_big_quiet_want; go_big_quiet_op; refine ⟨.int .i64 (N : Nat), fun w1 hw1 => ?_, ?_⟩; (rw [HC.out] at hw1 ⊢; with_reducible refine (CE.out _ (below_trans hW7 hw1)).mono ?_; rintro e w4 ⟨rfl, hb4⟩; exact ⟨rfl, below_trans hw1 hb4⟩); go_big_quiet_on)
 (go_big_quiet_want; go_big_quiet_op; go_big_quiet_on)
 (go_big_quiet_want; go_big_quiet_op; go_big_quiet_on)
 (go_big_quiet_want; go_big_quiet_op; go_big_quiet_on)
 (go_big_quiet_want; refine ⟨.agg #[.int .i64 kinda, .bool nega, .int .u64 (lm Va 0 : Nat), .int .u64 (lm Va 1 : Nat), .int .u64 (lm Va 2 : Nat), .int .u64 (lm Va 3 : Nat), .int .u64 (bitsa : Nat), .string texta, .slice aLa nLa cLa, .slice aKa nKa cKa], fun w1 hw1 => ?_, ?_⟩; (rw [HC.out] at hw1; obtain ⟨_, _, _, _, _⟩ := (A7.out.below hw1).all; simp [Oper.quietAt, go_sem, *]); refine z25zs1 ?_; go_big_quiet_on)
 (go_big_quiet_want; go_big_quiet_op; refine ⟨.int .i64 0, fun w1 hw1 => ?_, ?_⟩; (rw [HC.out] at hw1 ⊢; with_reducible refine (D4.out _ (below_trans h47 hw1)).mono ?_; rintro e w4 ⟨rfl, hb4⟩; exact ⟨rfl, below_trans hw1 hb4⟩); go_big_quiet_on)
 (go_big_quiet_want; go_big_quiet_op; go_big_quiet_on)
 (go_big_quiet_want; go_big_quiet_op; go_big_quiet_on)
 (go_big_quiet_want; go_big_quiet_op; go_big_quiet_on)
 (refine wpQuiet_nil ?_; intro w2 hw2; rw [HC.out] at hw2)
 repeat any_goals (first | go_skip | go_guarded | go_step | go_upon | (simp only []; done))
 exact bodyPost_ret (v := .bool true) (by simp [results, Tryz.results4, go_sem]) rfl ⟨rfl, below_trans hW7 hw2⟩
end Go.Proofs.YtfondldmmcmloaaGreatDoor
namespace Go.Proofs.YtfondldmmcmloaaGreatDoor
open Go.RowKit
theorem right_le {kind : Int} {neg : Bool} {V bits : Nat} {text : ByteArray} {aL : Option Addr} {nL cL : Nat} {kids : Nat → VT} {aK : Option Addr} {nK cK : Nat} {keys : Nat → ByteArray} (h : (VT.mk kind neg V bits text aL nL cL kids aK nK cK keys).right = true) : nK ≤ nL := by
 unfold VT.right at h
 rw [Bool.and_eq_true, Bool.and_eq_true] at h
 have h1 := h.1.1
 unfold midB at h1
 split at h1
 ·have := beq_iff_eq.1 h1; omega
 ·split at h1
  ·rw [Bool.and_eq_true] at h1
   have := beq_iff_eq.1 h1.1; omega
  ·rw [Bool.and_eq_true, Bool.and_eq_true] at h1
   have := beq_iff_eq.1 h1.1.2
   omega
theorem cnt_same {p q : Nat → Bool} {n : Nat} (h : ∀ i, i < n → p i = q i) : cntN p n = cntN q n ∧ ∀ j, selI p n j = selI q n j := by
 induction n with
 | zero => exact ⟨rfl, fun _ => rfl⟩
 | succ n ih =>
  obtain ⟨h1, h2⟩ := ih fun i hi => h i (by omega)
  simp only [cntN, selI]
  rw [h n (by omega), h1]
  exact ⟨rfl, fun j => by rw [h2]⟩
theorem Sim.keep {f : PF} {x y : VT} (h : Sim x y) : keepF f x = keepF f y := by
 cases x with
 | nil => exact h.nil_l.elim
 | mk =>
  cases y with
  | nil => exact h.nil_r.elim
  | mk =>
   obtain ⟨⟨rfl, rfl, rfl, rfl, rfl, rfl, rfl⟩, -, -⟩ := sim_mk.1 h
   rfl
theorem Sim.nrm (M : Nat → PM) (n : Nat) : ∀ {T U : VT}, Sim T U → T.right = true → ∀ m : PM, Sim ((nrm2 M n T).msg m) ((nrm2 M n U).msg m) ∧ Sim ((nrm2 M n T).all m) ((nrm2 M n U).all m) := by
 intro T
 induction T with
 | nil => exact fun h => h.nil_l.elim
 | mk kind neg V bits text aL nL cL kids aK nK cK keys ih =>
  intro U h hr m
  cases U with
  | nil => exact h.nil_r.elim
  | mk _ _ _ _ _ _ _ _ kids' _ _ _ keys' =>
   obtain ⟨⟨rfl, rfl, rfl, rfl, rfl, rfl, rfl⟩, hk, hl⟩ := sim_mk.1 h
   obtain ⟨-, -, hrk⟩ := right_parts hr
   have hle := right_le hr
   rw [nrm_msg, nrm_msg, nrm_all, nrm_all]
   have hp : ∀ i, i < nK → keptI m keys kids i = keptI m keys' kids' i := fun i hi => by
    unfold keptI
    rw [hk i hi, (hl i (by omega)).keep]
   obtain ⟨e1, e2⟩ := cnt_same hp
   refine ⟨sim_mk.2 ⟨⟨rfl, rfl, rfl, rfl, rfl, e1, e1⟩, fun j hj => ?_, fun j hj => ?_⟩, sim_mk.2 ⟨⟨rfl, rfl, rfl, rfl, rfl, rfl, rfl⟩, hk, fun j hj => (ih j (hl j hj) (hrk j hj) m).1⟩⟩
   ·rw [← e2]
    exact hk _ (sel_spec hj).1
   ·have hs := (sel_spec hj).1
    rw [← e2]
    generalize selI (keptI m keys kids) nK j = i at hs
    rw [← hk i hs]
    have hq := ih i (hl i (by omega)) (hrk i (by omega))
    unfold nrmX
    split
    ·exact hl i (by omega)
    ·split
     ·exact (hq _).2
     ·exact (hq _).1
theorem Norms_any (M : Nat → PM) (a : Option Addr) (n c : Nat) (T : VT) (w : World) (hL : PL w a n c M) (hin : T.In w) (hU : U8T w) (hT : Tab w)
  (CT : Hid (∀ wr : World, Below w.heap.size w wr → Calls Tryz.prog 8 #[] wr fun e w' => e = .returned (.bool true) ∧ Below wr.heap.size wr w')) :
  Calls Tryz.prog 4 #[.slice a n c, T.agg] w fun e w' => e = .returned (.bool true) ∧ Below w.heap.size w w' := by
 have C1 := Lib.hid fun wr (hx : Below w.heap.size w wr) => PFew_any a n c M wr (hL.below hx)
 have C2 := Lib.hid fun wr (hx : Below w.heap.size w wr) => Few_any T wr (VT.In.below hx _ hin)
 by_cases hf : (fewP M n && decide (T.few 40 ≤ 400)) = true
 ·rw [Bool.and_eq_true] at hf
  rw [hf.1] at C1
  rw [hf.2] at C2
  have hn : T.nodes < 4611686018427387904 := by
   have h := of_decide_eq_true hf.2
   have := (VT.few_nodes _ 40 h).1
   omega
  have C3 := Lib.hid fun wr (hx : Below w.heap.size w wr) => PNormV_any M a n c T wr (hL.below hx) (VT.In.below hx _ hin) (Utf8Tabs_below hU hx) (hT.below hx) hn
  have C5 := Lib.hid fun wr (hx : Below w.heap.size w wr) => PValidM_any M a n c T wr (hL.below hx) (VT.In.below hx _ hin) (Utf8Tabs_below hU hx) (hT.below hx) hn
  have CE := Lib.hid fun wr (hx : Below w.heap.size w wr) => RNodes_any T wr (VT.In.below hx _ hin) hn
  cases hv : validB M n T with
  | false =>
   rw [hv] at C3 C5
   cases T with
   | nil => exact hin.elim
   | mk kind neg V bits text aL nL cL kids aK nK cK keys => exact Norms_no a n c kind neg V bits text aL nL cL kids aK nK cK keys _ w C1 C2 C3 C5 CT
  | true =>
   rw [hv] at C3 C5
   have hv2 := hv
   unfold validB at hv2
   rw [Bool.and_eq_true, Bool.and_eq_true, decide_eq_true_eq] at hv2
   obtain ⟨hck, hmy, hmsg⟩ := hv2
   obtain ⟨hd, hnd, hlg, hrt⟩ := may_right hmy
   obtain ⟨hfine, hok, hidem⟩ := (nrm_ok (check_noscal hck) T).msg 0 (check_pos hck) hrt hlg hmsg
   obtain ⟨F, hF⟩ : ∃ F, (nrm2 M n T).msg (M 0) = F := ⟨_, rfl⟩
   rw [hF] at hfine hok hidem C3
   have hFmay : F.may = 0 := by
    unfold VT.may
    rw [if_neg (by have := hfine.d; omega), if_neg (fun h => h.elim (fun h => by have := hfine.n; omega) (fun h => by rw [hfine.l] at h; cases h)), if_pos hfine.r]
   have hFv : validB M n F = true := by
    unfold validB
    rw [hck, hFmay, hok]
    rfl
   have hnF : F.nodes < 4611686018427387904 := by have := hfine.n; omega
   have CN : Hid (∀ (t : VT) (wr : World), Below w.heap.size w wr → t.In wr → Sim t F → Calls Tryz.prog 9 #[.slice a n c, t.agg] wr fun e w' => ∃ t3 : VT, e = .returned (.tuple #[t3.agg, .bool true]) ∧ t3.In w' ∧ Sim t3 t ∧ Below wr.heap.size wr w') := Lib.hid fun t wr hx hi hs => by
    have hvt : validB M n t = true := (hs.valid M n).trans hFv
    have h := PNormV_any M a n c t wr (hL.below hx) hi (Utf8Tabs_below hU hx) (hT.below hx) (by rw [hs.nodes]; exact hnF)
    rw [hvt] at h
    refine h.mono ?_
    rintro e w' ⟨t3, he, h1, h2, -, h4⟩
    refine ⟨t3, he, h1, ?_, h4⟩
    have h5 := (h2 rfl).s
    have h6 := (hs.nrm M n (by rw [hs.right]; exact hfine.r) (M 0)).1
    exact ((h5.trans h6).trans hidem).trans hs.symm
   have CV : Hid (∀ (t : VT) (wr : World), Below w.heap.size w wr → t.In wr → Sim t F → Calls Tryz.prog 11 #[.slice a n c, t.agg] wr fun e w' => e = .returned (.bool true) ∧ Below wr.heap.size wr w') := Lib.hid fun t wr hx hi hs => by
    have h := PValidM_any M a n c t wr (hL.below hx) hi (Utf8Tabs_below hU hx) (hT.below hx) (by rw [hs.nodes]; exact hnF)
    rwa [(hs.valid M n).trans hFv] at h
   have CD : Hid (∀ (t : VT) (wr : World), t.In wr → Sim t F → Calls Tryz.prog 14 #[t.agg] wr fun e w' => e = .returned (.int .i64 (F.nodes : Nat)) ∧ Below wr.heap.size wr w') := Lib.hid fun t wr hi hs => by
    have h := RNodes_any t wr hi (by rw [hs.nodes]; exact hnF)
    rwa [hs.nodes] at h
   have CM : Hid (∀ (t : VT) (wr : World), t.In wr → Sim t F → Calls Tryz.prog 15 #[t.agg] wr fun e w' => e = .returned (.int .i64 0) ∧ Below wr.heap.size wr w') := Lib.hid fun t wr hi hs => by
    have h := RMayV_any t wr hi (by rw [hs.nodes]; exact hnF)
    rwa [hs.may, hFmay] at h
   cases T with
   | nil => exact hin.elim
   | mk kind neg V bits text aL nL cL kids aK nK cK keys => exact Norms_yes a n c kind neg V bits text aL nL cL kids aK nK cK keys F _ hfine.n hn w C1 C2 C3 C5 CT CN CV CD CE CM
 ·rw [Bool.not_eq_true] at hf
  cases T with
  | nil => exact hin.elim
  | mk kind neg V bits text aL nL cL kids aK nK cK keys => exact Norms_few a n c kind neg V bits text aL nL cL aK nK cK _ _ hf w C1 C2 CT
end Go.Proofs.YtfondldmmcmloaaGreatDoor
