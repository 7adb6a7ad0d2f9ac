/- Both, And of the program. -/
import Derived.Test.YtekeedjhaakbhaaDoorEqN
import Derived.Deep.DeepCutAuto
namespace Go.Proofs.YtekeedjhaakbhaaDoor
open Go.RowKit
/-- an interval in a block of its own that may be written -/
structure K10F (w : World) (B : Nat) (n : Bool) (V : Nat) (m : Bool) (U : Nat) : Prop where
  k : K10 w B n V m U
  f : ∀ j, w.frozen? ⟨B, j, none⟩ = false
  l : B < w.heap.size
theorem K10F.below {w1 w2 : World} {B : Nat} {n m : Bool} {V U : Nat} (h : K10F w1 B n V m U) (hb : Below w1.heap.size w1 w2) : K10F w2 B n V m U :=
  ⟨h.k.below hb, fun j => by rw [hb.frozen (p := ⟨B, j, none⟩) h.l]; exact h.f j, Nat.lt_of_lt_of_le h.l hb.size⟩
theorem K10F.setLo {w : World} {B V U X : Nat} {n m y : Bool} (h : K10F w B n V m U) : K10F (((((w.setCell ⟨B, 0, none⟩ (.bool y)).setCell ⟨B, 1, none⟩ (.int .u64 (lm X 0 : Nat))).setCell ⟨B, 2, none⟩ (.int .u64 (lm X 1 : Nat))).setCell ⟨B, 3, none⟩ (.int .u64 (lm X 2 : Nat))).setCell ⟨B, 4, none⟩ (.int .u64 (lm X 3 : Nat))) B y X m U := by
  obtain ⟨h0, h1, h2, h3, h4, h5, h6, h7, h8, h9⟩ := h.k.all
  refine ⟨⟨⟨?_, ?_, ?_, ?_, ?_, ?_, ?_, ?_, ?_, ?_⟩⟩, fun j => ?_, ?_⟩
  · rw [set_other (by simp), set_other (by simp), set_other (by simp), set_other (by simp), World.cell?_setCell_same _ _ _ h0]
  · rw [set_other (by simp), set_other (by simp), set_other (by simp), World.cell?_setCell_same _ _ _ (by rw [set_other (by simp)]; exact h1)]
  · rw [set_other (by simp), set_other (by simp), World.cell?_setCell_same _ _ _ (by rw [set_other (by simp), set_other (by simp)]; exact h2)]
  · rw [set_other (by simp), World.cell?_setCell_same _ _ _ (by rw [set_other (by simp), set_other (by simp), set_other (by simp)]; exact h3)]
  · rw [World.cell?_setCell_same _ _ _ (by rw [set_other (by simp), set_other (by simp), set_other (by simp), set_other (by simp)]; exact h4)]
  · rw [set_other (by simp), set_other (by simp), set_other (by simp), set_other (by simp), set_other (by simp)]; exact h5
  · rw [set_other (by simp), set_other (by simp), set_other (by simp), set_other (by simp), set_other (by simp)]; exact h6
  · rw [set_other (by simp), set_other (by simp), set_other (by simp), set_other (by simp), set_other (by simp)]; exact h7
  · rw [set_other (by simp), set_other (by simp), set_other (by simp), set_other (by simp), set_other (by simp)]; exact h8
  · rw [set_other (by simp), set_other (by simp), set_other (by simp), set_other (by simp), set_other (by simp)]; exact h9
  · simp only [World.frozen?_setCell]; exact h.f j
  · simpa using h.l
theorem K10F.setHi {w : World} {B V U X : Nat} {n m y : Bool} (h : K10F w B n V m U) : K10F (((((w.setCell ⟨B, 5, none⟩ (.bool y)).setCell ⟨B, 6, none⟩ (.int .u64 (lm X 0 : Nat))).setCell ⟨B, 7, none⟩ (.int .u64 (lm X 1 : Nat))).setCell ⟨B, 8, none⟩ (.int .u64 (lm X 2 : Nat))).setCell ⟨B, 9, none⟩ (.int .u64 (lm X 3 : Nat))) B n V y X := by
  obtain ⟨h0, h1, h2, h3, h4, h5, h6, h7, h8, h9⟩ := h.k.all
  refine ⟨⟨⟨?_, ?_, ?_, ?_, ?_, ?_, ?_, ?_, ?_, ?_⟩⟩, fun j => ?_, ?_⟩
  · rw [set_other (by simp), set_other (by simp), set_other (by simp), set_other (by simp), set_other (by simp)]; exact h0
  · rw [set_other (by simp), set_other (by simp), set_other (by simp), set_other (by simp), set_other (by simp)]; exact h1
  · rw [set_other (by simp), set_other (by simp), set_other (by simp), set_other (by simp), set_other (by simp)]; exact h2
  · rw [set_other (by simp), set_other (by simp), set_other (by simp), set_other (by simp), set_other (by simp)]; exact h3
  · rw [set_other (by simp), set_other (by simp), set_other (by simp), set_other (by simp), set_other (by simp)]; exact h4
  · rw [set_other (by simp), set_other (by simp), set_other (by simp), set_other (by simp), World.cell?_setCell_same _ _ _ h5]
  · rw [set_other (by simp), set_other (by simp), set_other (by simp), World.cell?_setCell_same _ _ _ (by rw [set_other (by simp)]; exact h6)]
  · rw [set_other (by simp), set_other (by simp), World.cell?_setCell_same _ _ _ (by rw [set_other (by simp), set_other (by simp)]; exact h7)]
  · rw [set_other (by simp), World.cell?_setCell_same _ _ _ (by rw [set_other (by simp), set_other (by simp), set_other (by simp)]; exact h8)]
  · rw [World.cell?_setCell_same _ _ _ (by rw [set_other (by simp), set_other (by simp), set_other (by simp), set_other (by simp)]; exact h9)]
  · simp only [World.frozen?_setCell]; exact h.f j
  · simpa using h.l
def loC (x y : Cl) : Int := if x.lo < y.lo then y.lo else x.lo
def hiC (x y : Cl) : Int := if y.hi < x.hi then y.hi else x.hi
theorem loC_b (x y : Cl) : (loC x y).natAbs < 2 ^ 256 := by unfold loC; split; exact y.hl; exact x.hl
theorem hiC_b (x y : Cl) : (hiC x y).natAbs < 2 ^ 256 := by unfold hiC; split; exact y.hh; exact x.hh
def cutK (x y : Cl) : Cl := ⟨loC x y, hiC x y, loC_b x y, hiC_b x y⟩
theorem cutI_C (x y : Cl) : cutI x.iv y.iv = if loC x y ≤ hiC x y then [(cutK x y).iv] else [] := rfl
/-- what the loop of Both keeps, in numbers -/
structure BothP (lx ly ks : List Cl) (p q : Nat) : Prop where
  eq : ks.map Cl.iv ++ bothL ((lx.drop p).map Cl.iv) ((ly.drop q).map Cl.iv) = bothL (lx.map Cl.iv) (ly.map Cl.iv)
  len : ks.length ≤ p + q
theorem BothP.start (lx ly : List Cl) : BothP lx ly [] 0 0 := ⟨by simp, Nat.le_refl _⟩
theorem BothP.step {lx ly ks : List Cl} {p q : Nat} {x y : Cl} (h : BothP lx ly ks p q) (hx : lx[p]? = some x) (hy : ly[q]? = some y) :
    (loC x y ≤ hiC x y → (x.hi < y.hi → BothP lx ly (ks ++ [cutK x y]) (p + 1) q) ∧ (¬ x.hi < y.hi → BothP lx ly (ks ++ [cutK x y]) p (q + 1))) ∧
    (¬ loC x y ≤ hiC x y → (x.hi < y.hi → BothP lx ly ks (p + 1) q) ∧ (¬ x.hi < y.hi → BothP lx ly ks p (q + 1))) := by
  have e := h.eq
  have hl := h.len
  rw [drop_at hx, drop_at hy, List.map_cons, List.map_cons, bothL, cutI_C] at e
  have hlen : (ks ++ [cutK x y]).length = ks.length + 1 := by simp
  refine ⟨fun c => ⟨fun d => ⟨?_, by omega⟩, fun d => ⟨?_, by omega⟩⟩, fun c => ⟨fun d => ⟨?_, by omega⟩, fun d => ⟨?_, by omega⟩⟩⟩
  · rw [if_pos c, if_pos (show x.iv.2 < y.iv.2 from d)] at e
    rw [drop_at hy, List.map_append, List.map_cons, List.append_assoc]
    exact e
  · rw [if_pos c, if_neg (show ¬ x.iv.2 < y.iv.2 from d)] at e
    rw [drop_at hx, List.map_append, List.map_cons, List.append_assoc]
    exact e
  · rw [if_neg c, if_pos (show x.iv.2 < y.iv.2 from d), List.nil_append] at e
    rw [drop_at hy, List.map_cons]
    exact e
  · rw [if_neg c, if_neg (show ¬ x.iv.2 < y.iv.2 from d), List.nil_append] at e
    rw [drop_at hx, List.map_cons]
    exact e
theorem bothL_nil (l : List Iv) : bothL l [] = [] := by cases l <;> simp [bothL]
theorem BothP.fin {lx ly ks : List Cl} {p q : Nat} (h : BothP lx ly ks p q) (hp : p = lx.length ∨ q = ly.length) : ks.map Cl.iv = bothL (lx.map Cl.iv) (ly.map Cl.iv) := by
  have e := h.eq
  rcases hp with hp | hp
  · rw [hp, List.drop_length, List.map_nil, bothL, List.append_nil] at e
    exact e
  · rw [hp, List.drop_length, List.map_nil, bothL_nil, List.append_nil] at e
    exact e
theorem both_set {lx ly ks : List Cl} {P Q : Int → Prop} (hx : SetF lx P) (hy : SetF ly Q) (h : ks.map Cl.iv = bothL (lx.map Cl.iv) (ly.map Cl.iv)) : SetF ks (fun z => P z ∧ Q z) := by
  have hs := bothL_spec _ (lx.map Cl.iv) (ly.map Cl.iv) (Nat.le_refl _) hx.nf hy.nf
  rw [← h] at hs
  exact ⟨hs.1, fun z => (hs.2.2 z).trans (and_congr (hx.mem z) (hy.mem z))⟩
theorem k10f_new {w : World} {t : TypeId} {nl nh : Bool} {vl vh : Nat} : K10F (w.alloc (.cells #[.bool nl, .int .u64 (lm vl 0 : Nat), .int .u64 (lm vl 1 : Nat), .int .u64 (lm vl 2 : Nat), .int .u64 (lm vl 3 : Nat), .bool nh, .int .u64 (lm vh 0 : Nat), .int .u64 (lm vh 1 : Nat), .int .u64 (lm vh 2 : Nat), .int .u64 (lm vh 3 : Nat)] t)) w.heap.size nl vl nh vh := ⟨k10_new, fun j => by simp [go_sem], by simp⟩
theorem cmpZ_gt (p q : Int) : 0 < cmpZ p q ↔ q < p := by
  unfold cmpZ
  split
  · omega
  · split <;> omega
theorem cmpZ_lt (p q : Int) : cmpZ p q < 0 ↔ p < q := by
  unfold cmpZ
  split
  · omega
  · split <;> omega
theorem cmpZ_le (p q : Int) : cmpZ p q ≤ 0 ↔ p ≤ q := by
  unfold cmpZ
  split
  · omega
  · split <;> omega
structure BothI (w3 wr : World) (v : Value) (ks : List Cl) : Prop where
  o : wr.ownsRow w3.heap.size 65 10 v ks.length (encs ks)
  b : Below w3.heap.size w3 wr
theorem BothI.drop {w3 wr w1 : World} {v : Value} {ks : List Cl} (h : BothI w3 wr v ks) (hb : Below wr.heap.size wr w1) : BothI w3 w1 v ks :=
  ⟨own_below h.o hb, h.b.trans (below_weak hb h.b.size)⟩
theorem BothI.keep {w3 wr wx w2 : World} {m : Nat} {v v' : Value} {ks : List Cl} {x : Cl} (h : BothI w3 wr v ks) (hb : Below wr.heap.size wr wx) (hm : m = ks.length + 1)
    (h2 : w2.ownsRow w3.heap.size 65 10 v' m (encs ks ++ x.enc)) (hg : wx.grownBy w2 v.ownBlock) : BothI w3 w2 v' (ks ++ [x]) := by
  subst hm
  have h' := h.drop hb
  exact ⟨by rw [encs_app, List.length_append]; exact h2, h'.b.grown hg h'.b.size (fun k hk => (h.o.lt k hk).1)⟩
set_option maxRecDepth 20000 in
set_option maxHeartbeats 8000000 in
theorem Both_any (a : Option Addr) (n c : Nat) (S : Nat → Sp) (b : Option Addr) (m d : Nat) (T : Nat → Sp) (w : World) (h1 : SRow w a n c S) (h2 : SRow w b m d T) (hn : n ≤ 400000) (hm : m ≤ 400000) (hM1 : mayR S n = true) (hM2 : mayR T m = true) :
    Calls Tryd.prog 49 #[.slice a n c, .slice b m d] w fun e w' => ∃ v, e = .returned v ∧ SOut (fun z => InS S n z ∧ InS T m z) (n + m) w v w' := by
  have H1 := Lib.hid h1
  have H2 := Lib.hid h2
  have HM := Lib.hid (And.intro hM1 hM2)
  clear h1 h2 hM1 hM2
  obtain ⟨i0, hi, hz0, hz1, hz2⟩ := info_parts infoC
  go_enter Tryd.func49, Tryd.ntmps49
  repeat any_goals (first | go_skip | go_guarded | go_step | go_upon | (simp only []; done))
  refine (close_out a n c S w _ H1.out (by omega) HM.out.1 (Below.refl _ _)).mono ?_
  rintro e w1 ⟨v1, rfl, h1⟩
  dsimp only []
  repeat any_goals (first | go_skip | go_guarded | go_step | go_upon | (simp only []; done))
  obtain ⟨l1, p1, p2, p3, p4, p5, p6⟩ := h1
  refine (join_out p1 p2 p3 p4 (by omega) _ p5 p6).mono ?_
  rintro e w2 ⟨v2, rfl, h2⟩
  obtain ⟨lx, fx, kx, ox, bx⟩ := h2
  obtain ⟨ax, cx, rfl⟩ := own_shape ox
  dsimp only []
  have HOx := Lib.hid ox
  obtain ⟨n1, hn1⟩ : ∃ n, n = lx.length := ⟨_, rfl⟩
  rw [← hn1] at kx ⊢
  clear p1 p2 p3 p4 p5 p6 ox
  repeat any_goals (first | go_skip | go_guarded | go_step | go_upon | (simp only []; done))
  refine (close_out b m d T w2 _ (H2.out.below bx) (by omega) HM.out.2 (Below.refl _ _)).mono ?_
  rintro e w3 ⟨v3, rfl, h3⟩
  dsimp only []
  repeat any_goals (first | go_skip | go_guarded | go_step | go_upon | (simp only []; done))
  obtain ⟨l3, p1, p2, p3, p4, p5, p6⟩ := h3
  refine (join_out p1 p2 p3 p4 (by omega) _ p5 p6).mono ?_
  rintro e w4 ⟨v4, rfl, h4⟩
  obtain ⟨ly, fy, ky, oy, by'⟩ := h4
  obtain ⟨ay, cy, rfl⟩ := own_shape oy
  dsimp only []
  have HOy := Lib.hid oy
  obtain ⟨n2, hn2⟩ : ∃ n, n = ly.length := ⟨_, rfl⟩
  rw [← hn2] at ky ⊢
  have HF := Lib.hid (And.intro fx fy)
  have HCx := Lib.hid fun (k : Nat) (hk : k < lx.length) (wr : World) (hb : Below w4.heap.size w4 wr) => cl_lit (own_below HOx.out by') hk hb
  have HCy := Lib.hid fun (k : Nat) (hk : k < ly.length) (wr : World) (hb : Below w4.heap.size w4 wr) => cl_lit HOy.out hk hb
  rw [← hn1] at HCx
  rw [← hn2] at HCy
  have HN := Lib.hid (And.intro hn1 hn2)
  have HB := Lib.hid (show Below w.heap.size w w4 from bx.trans (below_weak by' bx.size))
  have hs1 : n1 ≤ 400000 := by omega
  have hs2 : n2 ≤ 400000 := by omega
  have HK := Lib.hid (And.intro kx ky)
  clear p1 p2 p3 p4 p5 p6 oy fx fy hn1 hn2 bx by' kx ky H1 H2
  repeat any_goals (first | go_skip | go_guarded | go_step | go_upon | (simp only []; done))
  go_loopw [7, 8, 9] (fun v i k wr => ∃ (p q : Nat) (ks : List Cl), i = .int .i64 p ∧ k = .int .i64 q ∧ p ≤ n1 ∧ q ≤ n2 ∧ BothI w4 wr v ks ∧ BothP lx ly ks p q) (fun _ i k _ => (n1 - (intOf i).toNat) + (n2 - (intOf k).toNat))
  case atStart => exact ⟨0, 0, [], rfl, rfl, Nat.zero_le _, Nat.zero_le _, ⟨World.ownsRow_nil _ _ _ _, Below.refl _ _⟩, BothP.start _ _⟩
  case round =>
    obtain ⟨p, q, ks, rfl, rfl, hp, hq, I, OP⟩ := hrel
    have IH := Lib.hid I
    have HP := Lib.hid OP
    have hW := I.b
    have hkl := OP.len
    clear I OP
    have i1 : (0 : Int) ≤ (p : Int) := by omega
    have i2 : (0 : Int) ≤ (q : Int) := by omega
    have i3 : (p : Int).toNat = p := rfl
    have i4 : (q : Int).toNat = q := rfl
    by_cases hp1 : p < n1
    · have j1 : (p : Int) < (n1 : Int) := by omega
      by_cases hq1 : q < n2
      · have j2 : (q : Int) < (n2 : Int) := by omega
        obtain ⟨gx, cpx, x, hvx, hbx, hx, -, -, rx⟩ := HCx.out p hp1 wr hW
        injection hvx with hv1 _ hv3
        subst hv1 hv3
        obtain ⟨gy, cpy, y, hvy, hby, hy, -, -, ry⟩ := HCy.out q hq1 wr hW
        injection hvy with hv1 _ hv3
        subst hv1 hv3
        have ST := Lib.hid (HP.out.step hx hy)
        have HXX := Lib.hid (And.intro hx hy)
        obtain ⟨nl, hnl⟩ : ∃ n, n = sg x.lo := ⟨_, rfl⟩
        obtain ⟨vl, hvl⟩ : ∃ n, n = ab x.lo := ⟨_, rfl⟩
        obtain ⟨nh, hnh⟩ : ∃ n, n = sg x.hi := ⟨_, rfl⟩
        obtain ⟨vh, hvh⟩ : ∃ n, n = ab x.hi := ⟨_, rfl⟩
        obtain ⟨ml, hml⟩ : ∃ n, n = sg y.lo := ⟨_, rfl⟩
        obtain ⟨ul, hul⟩ : ∃ n, n = ab y.lo := ⟨_, rfl⟩
        obtain ⟨mh, hmh⟩ : ∃ n, n = sg y.hi := ⟨_, rfl⟩
        obtain ⟨uh, huh⟩ : ∃ n, n = ab y.hi := ⟨_, rfl⟩
        obtain ⟨ln, hln⟩ : ∃ n, n = sg (loC x y) := ⟨_, rfl⟩
        obtain ⟨lv, hlv⟩ : ∃ n, n = ab (loC x y) := ⟨_, rfl⟩
        obtain ⟨hn', hhn⟩ : ∃ n, n = sg (hiC x y) := ⟨_, rfl⟩
        obtain ⟨hv, hhv⟩ : ∃ n, n = ab (hiC x y) := ⟨_, rfl⟩
        obtain ⟨z1, hz1⟩ : ∃ z, cmpI (sg y.lo) (ab y.lo) (sg x.lo) (ab x.lo) = z := ⟨_, rfl⟩
        obtain ⟨z2, hz2⟩ : ∃ z, cmpI (sg y.hi) (ab y.hi) (sg x.hi) (ab x.hi) = z := ⟨_, rfl⟩
        obtain ⟨z3, hz3⟩ : ∃ z, cmpI (sg (loC x y)) (ab (loC x y)) (sg (hiC x y)) (ab (hiC x y)) = z := ⟨_, rfl⟩
        obtain ⟨z4, hz4⟩ : ∃ z, cmpI (sg x.hi) (ab x.hi) (sg y.hi) (ab y.hi) = z := ⟨_, rfl⟩
        have C1 := Lib.hid fun wx => Cmp_any (sg y.lo) (ab y.lo) y.hl (sg x.lo) (ab x.lo) x.hl wx
        have C2 := Lib.hid fun wx => Cmp_any (sg y.hi) (ab y.hi) y.hh (sg x.hi) (ab x.hi) x.hh wx
        have C3 := Lib.hid fun wx => Cmp_any (sg (loC x y)) (ab (loC x y)) (loC_b x y) (sg (hiC x y)) (ab (hiC x y)) (hiC_b x y) wx
        have C4 := Lib.hid fun wx => Cmp_any (sg x.hi) (ab x.hi) x.hh (sg y.hi) (ab y.hi) y.hh wx
        rw [hz1, ← hml, ← hul, ← hnl, ← hvl] at C1
        rw [hz2, ← hmh, ← huh, ← hnh, ← hvh] at C2
        rw [hz3, ← hln, ← hlv, ← hhn, ← hhv] at C3
        rw [hz4, ← hmh, ← huh, ← hnh, ← hvh] at C4
        have J1 := Lib.hid (show 0 < z1 ↔ x.lo < y.lo by rw [← hz1, cmpI_sg]; exact cmpZ_gt _ _)
        have J2 := Lib.hid (show z2 < 0 ↔ y.hi < x.hi by rw [← hz2, cmpI_sg]; exact cmpZ_lt _ _)
        have J3 := Lib.hid (show z3 ≤ 0 ↔ loC x y ≤ hiC x y by rw [← hz3, cmpI_sg]; exact cmpZ_le _ _)
        have J4 := Lib.hid (show z4 < 0 ↔ x.hi < y.hi by rw [← hz4, cmpI_sg]; exact cmpZ_lt _ _)
        have HE := Lib.hid (show (cutK x y).enc = [.bool ln, .int .u64 (lm lv 0 : Nat), .int .u64 (lm lv 1 : Nat), .int .u64 (lm lv 2 : Nat), .int .u64 (lm lv 3 : Nat), .bool hn', .int .u64 (lm hv 0 : Nat), .int .u64 (lm hv 1 : Nat), .int .u64 (lm hv 2 : Nat), .int .u64 (lm hv 3 : Nat)] by rw [hln, hlv, hhn, hhv]; rfl)
        have HL := Lib.hid (And.intro hln hlv)
        have HH := Lib.hid (And.intro hhn hhv)
        have HXl := Lib.hid (And.intro hnl hvl)
        have HXh := Lib.hid (And.intro hnh hvh)
        have HYl := Lib.hid (And.intro hml hul)
        have HYh := Lib.hid (And.intro hmh huh)
        rw [← hnl, ← hvl, ← hnh, ← hvh] at rx
        rw [← hml, ← hul, ← hmh, ← huh] at ry
        have RX := Lib.hid rx
        have RY := Lib.hid ry
        have hgx := hbx
        have bd1 : ks.length + 1 ≤ maxLen := by simp only [maxLen]; omega
        have bd2 : (ks.length + 1) * 80 ≤ 140737488355328 := by omega
        have BD := Lib.hid (And.intro bd1 bd2)
        obtain ⟨_, _, _, _, _, _, _, _, _, _⟩ := rx.all
        clear rx ry hx hy hz1 hz2 hz3 hz4 hln hlv hhn hhv hnl hvl hnh hvh hml hul hmh huh bd1 bd2 hbx hby
        go_upto_region 6 with fail
        have K0 := Lib.hid (@k10f_new wr 65 nl nh vl vh)
        have hwa := Lib.hid (below_alloc (Below.refl wr.heap.size wr) (.cells #[.bool nl, .int .u64 (lm vl 0 : Nat), .int .u64 (lm vl 1 : Nat), .int .u64 (lm vl 2 : Nat), .int .u64 (lm vl 3 : Nat), .bool nh, .int .u64 (lm vh 0 : Nat), .int .u64 (lm vh 1 : Nat), .int .u64 (lm vh 2 : Nat), .int .u64 (lm vh 3 : Nat)] 65))
        generalize wr.alloc (.cells #[.bool nl, .int .u64 (lm vl 0 : Nat), .int .u64 (lm vl 1 : Nat), .int .u64 (lm vl 2 : Nat), .int .u64 (lm vl 3 : Nat), .bool nh, .int .u64 (lm vh 0 : Nat), .int .u64 (lm vh 1 : Nat), .int .u64 (lm vh 2 : Nat), .int .u64 (lm vh 3 : Nat)] 65) = wa at *
        have Ka := Lib.hid K0.out.k
        have Ya := Lib.hid (RY.out.below hwa.out)
        obtain ⟨_, _, _, _, _, _, _, _, _, _⟩ := Ka.out.all
        (obtain ⟨C_, hC⟩ : ∃ C : World → Prop, C = fun w' => Below (wa).heap.size (wa) w' := ⟨_, rfl⟩; have HC := Lib.hid hC; have hne : ∀ p : Prop, (∀ w1 : World, C_ w1 → p) = p := fun p => propext ⟨fun h => h (wa) (by rw [hC]; exact Below.refl _ _), fun h _ _ => h⟩; clear hC; refine wp_region_quiet_cls (C := C_) (by kernel_rfl) (by kernel_rfl) (by rw [HC.out]; exact (Below.refl _ _).drew) ?_)
        (go_big_quiet_want; go_big_quiet_op; go_big_quiet_on)
        (go_big_quiet_want; go_big_quiet_op; go_big_quiet_on)
        (go_big_quiet_want; refine ⟨.pointer (some ⟨gy, q * 10, none⟩), fun w1 hw1 => ?_, ?_⟩; (rw [HC.out] at hw1; obtain ⟨_, _, _, _, _⟩ := (Ka.out.below hw1).all; simp [Oper.quietAt, go_sem, *]); (try simp only [Act.put, List.setIfInBounds_toArray, List.set_cons_zero, List.set_cons_succ]); go_big_quiet_on)
        (go_big_quiet_want; go_big_quiet_op; go_big_quiet_on)
        (go_big_quiet_want; refine ⟨.agg #[.bool ml, .int .u64 (lm ul 0 : Nat), .int .u64 (lm ul 1 : Nat), .int .u64 (lm ul 2 : Nat), .int .u64 (lm ul 3 : Nat)], fun w1 hw1 => ?_, ?_⟩; (rw [HC.out] at hw1; obtain ⟨_, _, _, _, _⟩ := (Ya.out.below hw1).all; simp [Oper.quietAt, go_sem, *]); (try simp only [Act.put, List.setIfInBounds_toArray, List.set_cons_zero, List.set_cons_succ]); go_big_quiet_on)
        (go_big_quiet_want; go_big_quiet_op; go_big_quiet_on)
        (go_big_quiet_want; refine ⟨.agg #[.bool nl, .int .u64 (lm vl 0 : Nat), .int .u64 (lm vl 1 : Nat), .int .u64 (lm vl 2 : Nat), .int .u64 (lm vl 3 : Nat)], fun w1 hw1 => ?_, ?_⟩; (rw [HC.out] at hw1; obtain ⟨_, _, _, _, _⟩ := (Ka.out.below hw1).all; simp [Oper.quietAt, go_sem, *]); (try simp only [Act.put, List.setIfInBounds_toArray, List.set_cons_zero, List.set_cons_succ]); go_big_quiet_on)
        (go_big_quiet_want; go_big_quiet_op; refine ⟨.int .i64 z1, fun w1 hw1 => ?_, ?_⟩; (rw [HC.out] at hw1 ⊢; with_reducible refine (C1.out _).mono ?_; rintro e w4 ⟨rfl, hb4⟩; exact ⟨rfl, below_trans hw1 hb4⟩); go_big_quiet_on)
        (go_big_quiet_want; refine ⟨.bool (decide (0 < z1)), fun w1 hw1 => ?_, ?_⟩; (rw [HC.out] at hw1; obtain ⟨_, _, _, _, _⟩ := (Ka.out.below hw1).all; simp [Oper.quietAt, go_sem, *]); (try simp only [Act.put, List.setIfInBounds_toArray, List.set_cons_zero, List.set_cons_succ]); go_big_quiet_on)
        (refine wpQuiet_nil ?_; intro w2 hw2; rw [HC.out] at hw2)
        have K2 := Lib.hid (K0.out.below hw2)
        have Y2 := Lib.hid (Ya.out.below hw2)
        have hwb := Lib.hid (hwa.out.trans (below_weak hw2 hwa.out.size))
        clear K0 Ka Ya hw2
        obtain ⟨_, _, _, _, _, _, _, _, _, _⟩ := K2.out.k.all
        obtain ⟨_, _, _, _, _, _, _, _, _, _⟩ := Y2.out.all
        have hf2 := K2.out.f
        have hl2 := K2.out.l
        go_upto_if 39 with fail
        go_cut [10] (fun s10 wx => s10 = .pointer (some ⟨wr.heap.size, 0, none⟩) ∧ Below wr.heap.size wr wx ∧ K10F wx wr.heap.size ln lv nh vh)
        case first =>
          by_cases cz : 0 < z1
          · repeat any_goals (first | go_skip | go_guarded | go_step | go_upon | (simp only []; done))
            go_meet
            case rel => exact ⟨rfl, by have hb := hwb.out; (repeat first | with_reducible exact Below.refl _ _ | with_reducible assumption | with_reducible refine Below.drew ?_ | with_reducible refine below_alloc ?_ _ | ((with_reducible refine Below.setCell ?_ ?_ _); rotate_left; (focus (first | with_reducible exact Nat.le_refl _ | (simp; done) | (simp; omega) | omega))) | (with_reducible refine below_trans ?_ (by assumption))), by
              have e : loC x y = y.lo := if_pos (J1.out.1 cz)
              rw [HL.out.1, HL.out.2, e, ← HYl.out.1, ← HYl.out.2]
              exact K2.out.setLo⟩
          · repeat any_goals (first | go_skip | go_guarded | go_step | go_upon | (simp only []; done))
            go_meet
            case rel => exact ⟨rfl, hwb.out, by
              have e : loC x y = x.lo := if_neg (fun h => cz (J1.out.2 h))
              rw [HL.out.1, HL.out.2, e, ← HXl.out.1, ← HXl.out.2]
              exact K2.out⟩
        case rest =>
          obtain ⟨rfl, hbc, kc⟩ := hcut
          have KC := Lib.hid kc
          have HBC := Lib.hid hbc
          have Kc := Lib.hid kc.k
          have Yc := Lib.hid (RY.out.below hbc)
          clear kc hbc K2 Y2 hf2 hl2
          go_upto_region 8 with fail
          obtain ⟨_, _, _, _, _, _, _, _, _, _⟩ := Kc.out.all
          (obtain ⟨C_, hC⟩ : ∃ C : World → Prop, C = fun w' => Below (wc).heap.size (wc) w' := ⟨_, rfl⟩; have HC := Lib.hid hC; have hne : ∀ p : Prop, (∀ w1 : World, C_ w1 → p) = p := fun p => propext ⟨fun h => h (wc) (by rw [hC]; exact Below.refl _ _), fun h _ _ => h⟩; clear hC; refine wp_region_quiet_cls (C := C_) (by kernel_rfl) (by kernel_rfl) (by rw [HC.out]; exact (Below.refl _ _).drew) ?_)
          (go_big_quiet_want; go_big_quiet_op; go_big_quiet_on)
          (go_big_quiet_want; go_big_quiet_op; go_big_quiet_on)
          (go_big_quiet_want; refine ⟨.pointer (some ⟨gy, q * 10, none⟩), fun w1 hw1 => ?_, ?_⟩; (rw [HC.out] at hw1; obtain ⟨_, _, _, _, _⟩ := (Kc.out.below hw1).all; simp [Oper.quietAt, go_sem, *]); (try simp only [Act.put, List.setIfInBounds_toArray, List.set_cons_zero, List.set_cons_succ]); go_big_quiet_on)
          (go_big_quiet_want; go_big_quiet_op; go_big_quiet_on)
          (go_big_quiet_want; refine ⟨.agg #[.bool mh, .int .u64 (lm uh 0 : Nat), .int .u64 (lm uh 1 : Nat), .int .u64 (lm uh 2 : Nat), .int .u64 (lm uh 3 : Nat)], fun w1 hw1 => ?_, ?_⟩; (rw [HC.out] at hw1; obtain ⟨_, _, _, _, _⟩ := (Yc.out.below hw1).all; simp [Oper.quietAt, go_sem, *]); (try simp only [Act.put, List.setIfInBounds_toArray, List.set_cons_zero, List.set_cons_succ]); go_big_quiet_on)
          (go_big_quiet_want; go_big_quiet_op; go_big_quiet_on)
          (go_big_quiet_want; refine ⟨.agg #[.bool nh, .int .u64 (lm vh 0 : Nat), .int .u64 (lm vh 1 : Nat), .int .u64 (lm vh 2 : Nat), .int .u64 (lm vh 3 : Nat)], fun w1 hw1 => ?_, ?_⟩; (rw [HC.out] at hw1; obtain ⟨_, _, _, _, _⟩ := (Kc.out.below hw1).all; simp [Oper.quietAt, go_sem, *]); (try simp only [Act.put, List.setIfInBounds_toArray, List.set_cons_zero, List.set_cons_succ]); go_big_quiet_on)
          (go_big_quiet_want; go_big_quiet_op; refine ⟨.int .i64 z2, fun w1 hw1 => ?_, ?_⟩; (rw [HC.out] at hw1 ⊢; with_reducible refine (C2.out _).mono ?_; rintro e w4 ⟨rfl, hb4⟩; exact ⟨rfl, below_trans hw1 hb4⟩); go_big_quiet_on)
          (go_big_quiet_want; refine ⟨.bool (decide (z2 < 0)), fun w1 hw1 => ?_, ?_⟩; (rw [HC.out] at hw1; obtain ⟨_, _, _, _, _⟩ := (Kc.out.below hw1).all; simp [Oper.quietAt, go_sem, *]); (try simp only [Act.put, List.setIfInBounds_toArray, List.set_cons_zero, List.set_cons_succ]); go_big_quiet_on)
          (refine wpQuiet_nil ?_; intro w2 hw2; rw [HC.out] at hw2)
          have K3 := Lib.hid (KC.out.below hw2)
          have Y3 := Lib.hid (Yc.out.below hw2)
          have hwd := Lib.hid (HBC.out.trans (below_weak hw2 HBC.out.size))
          clear KC Kc Yc hw2
          obtain ⟨_, _, _, _, _, _, _, _, _, _⟩ := K3.out.k.all
          obtain ⟨_, _, _, _, _, _, _, _, _, _⟩ := Y3.out.all
          have hf3 := K3.out.f
          have hl3 := K3.out.l
          go_upto_if 54 with fail
          go_cut [10] (fun s10 wx => s10 = .pointer (some ⟨wr.heap.size, 0, none⟩) ∧ Below wr.heap.size wr wx ∧ K10F wx wr.heap.size ln lv hn' hv)
          case first =>
            by_cases cz : z2 < 0
            · repeat any_goals (first | go_skip | go_guarded | go_step | go_upon | (simp only []; done))
              go_meet
              case rel => exact ⟨rfl, by have hb := hwd.out; (repeat first | with_reducible exact Below.refl _ _ | with_reducible assumption | with_reducible refine Below.drew ?_ | with_reducible refine below_alloc ?_ _ | ((with_reducible refine Below.setCell ?_ ?_ _); rotate_left; (focus (first | with_reducible exact Nat.le_refl _ | (simp; done) | (simp; omega) | omega))) | (with_reducible refine below_trans ?_ (by assumption))), by
                have e : hiC x y = y.hi := if_pos (J2.out.1 cz)
                rw [HH.out.1, HH.out.2, e, ← HYh.out.1, ← HYh.out.2]
                exact K3.out.setHi⟩
            · repeat any_goals (first | go_skip | go_guarded | go_step | go_upon | (simp only []; done))
              go_meet
              case rel => exact ⟨rfl, hwd.out, by
                have e : hiC x y = x.hi := if_neg (fun h => cz (J2.out.2 h))
                rw [HH.out.1, HH.out.2, e, ← HXh.out.1, ← HXh.out.2]
                exact K3.out⟩
          case rest =>
            obtain ⟨rfl, hbe, ke⟩ := hcut
            have KE := Lib.hid ke
            have HBE := Lib.hid hbe
            clear ke hbe K3 Y3 hf3 hl3
            obtain ⟨_, _, _, _, _, _, _, _, _, _⟩ := KE.out.k.all
            obtain ⟨ks', hks'⟩ : ∃ k, k = if loC x y ≤ hiC x y then ks ++ [cutK x y] else ks := ⟨_, rfl⟩
            have HK' := Lib.hid hks'
            clear hks'
            go_upto_if 66 with (go_at_call 42; with_reducible refine (C3.out _).mono ?_; rintro e wf ⟨rfl, hbf⟩)
            have KF := Lib.hid (KE.out.below hbf)
            have HBF := Lib.hid (HBE.out.trans (below_weak hbf HBE.out.size))
            clear KE hbf
            obtain ⟨_, _, _, _, _, _, _, _, _, _⟩ := KF.out.k.all
            go_cut [7] (fun s7 wx => BothI w4 wx s7 ks')
            case first =>
              by_cases cz : z3 ≤ 0
              · repeat any_goals (first | (at_builtin; refine wpList_append_own _ rfl (.tmp 67) (.tmp 69) 53 rfl w4.heap.size 65 i0 (.agg #[.bool false, .int .u64 0, .int .u64 0, .int .u64 0, .int .u64 0, .bool false, .int .u64 0, .int .u64 0, .int .u64 0, .int .u64 0]) 10 80 Tryd.underlying53 hi hz0 hz1 hz2 rfl (by decide) _ _ _ rfl ((IH.out.drop HBF.out).o.alloc _) ⟨wf.heap.size, 0, none⟩ 1 1 [.bool ln, .int .u64 (lm lv 0 : Nat), .int .u64 (lm lv 1 : Nat), .int .u64 (lm lv 2 : Nat), .int .u64 (lm lv 3 : Nat), .bool hn', .int .u64 (lm hv 0 : Nat), .int .u64 (lm hv 1 : Nat), .int .u64 (lm hv 2 : Nat), .int .u64 (lm hv 3 : Nat)] rfl rfl ten_cells ten_one BD.out.1 BD.out.2 (by have := IH.out.b.size; have := HBF.out.size; simp; omega) ?_; intro v' wg hown' hgrow _) | go_skip | go_guarded | go_step | go_upon | (dsimp only []))
                go_meet
                case rel =>
                  rw [HK'.out, if_pos (J3.out.1 cz)]
                  exact IH.out.keep (below_alloc HBF.out _) rfl (by rw [HE.out]; exact hown') hgrow
              · repeat any_goals (first | go_skip | go_guarded | go_step | go_upon | (simp only []; done))
                go_meet
                case rel =>
                  rw [HK'.out, if_neg (fun h => cz (J3.out.2 h))]
                  exact IH.out.drop HBF.out
            case rest =>
              have IJ := Lib.hid hcut
              clear KF hcut
              have SP := Lib.hid (show (x.hi < y.hi → BothP lx ly ks' (p + 1) q) ∧ (¬ x.hi < y.hi → BothP lx ly ks' p (q + 1)) from by
                rw [HK'.out]
                by_cases cl : loC x y ≤ hiC x y
                · rw [if_pos cl]
                  exact ⟨(ST.out.1 cl).1, fun d => (ST.out.1 cl).2 (Int.not_lt.1 d)⟩
                · rw [if_neg cl]
                  exact ⟨(ST.out.2 (Int.not_le.1 cl)).1, fun d => (ST.out.2 (Int.not_le.1 cl)).2 (Int.not_lt.1 d)⟩)
              have RXX : Hid (R10 wc gx (p * 10) nl vl nh vh) := Lib.hid (by
                obtain ⟨g', c', x', e1, -, e2, -, -, r'⟩ := HCx.out p hp1 wc IJ.out.b
                injection e1 with e1 _ _
                injection e1 with e1
                injection e1 with e1 _ _
                subst e1
                rw [HXX.out.1] at e2
                obtain rfl := Option.some.inj e2
                rw [HXl.out.1, HXl.out.2, HXh.out.1, HXh.out.2]
                exact r')
              have RYY : Hid (R10 wc gy (q * 10) ml ul mh uh) := Lib.hid (by
                obtain ⟨g', c', y', e1, -, e2, -, -, r'⟩ := HCy.out q hq1 wc IJ.out.b
                injection e1 with e1 _ _
                injection e1 with e1
                injection e1 with e1 _ _
                subst e1
                rw [HXX.out.2] at e2
                obtain rfl := Option.some.inj e2
                rw [HYl.out.1, HYl.out.2, HYh.out.1, HYh.out.2]
                exact r')
              go_upto_region 12 with fail
              (obtain ⟨C_, hC⟩ : ∃ C : World → Prop, C = fun w' => Below (wc).heap.size (wc) w' := ⟨_, rfl⟩; have HC := Lib.hid hC; have hne : ∀ p : Prop, (∀ w1 : World, C_ w1 → p) = p := fun p => propext ⟨fun h => h (wc) (by rw [hC]; exact Below.refl _ _), fun h _ _ => h⟩; clear hC; refine wp_region_quiet_cls (C := C_) (by kernel_rfl) (by kernel_rfl) (by rw [HC.out]; exact (Below.refl _ _).drew) ?_)
              (go_big_quiet_want; go_big_quiet_op; go_big_quiet_on)
              (go_big_quiet_want; go_big_quiet_op; go_big_quiet_on)
              (go_big_quiet_want; refine ⟨.pointer (some ⟨gx, p * 10, none⟩), fun w1 hw1 => ?_, ?_⟩; (rw [HC.out] at hw1; obtain ⟨_, _, _, _, _⟩ := (RXX.out.below hw1).all; simp [Oper.quietAt, go_sem, *]); (try simp only [Act.put, List.setIfInBounds_toArray, List.set_cons_zero, List.set_cons_succ]); go_big_quiet_on)
              (go_big_quiet_want; go_big_quiet_op; go_big_quiet_on)
              (go_big_quiet_want; refine ⟨.agg #[.bool nh, .int .u64 (lm vh 0 : Nat), .int .u64 (lm vh 1 : Nat), .int .u64 (lm vh 2 : Nat), .int .u64 (lm vh 3 : Nat)], fun w1 hw1 => ?_, ?_⟩; (rw [HC.out] at hw1; obtain ⟨_, _, _, _, _⟩ := (RXX.out.below hw1).all; simp [Oper.quietAt, go_sem, *]); (try simp only [Act.put, List.setIfInBounds_toArray, List.set_cons_zero, List.set_cons_succ]); go_big_quiet_on)
              (go_big_quiet_want; go_big_quiet_op; go_big_quiet_on)
              (go_big_quiet_want; go_big_quiet_op; go_big_quiet_on)
              (go_big_quiet_want; refine ⟨.pointer (some ⟨gy, q * 10, none⟩), fun w1 hw1 => ?_, ?_⟩; (rw [HC.out] at hw1; obtain ⟨_, _, _, _, _⟩ := (RYY.out.below hw1).all; simp [Oper.quietAt, go_sem, *]); (try simp only [Act.put, List.setIfInBounds_toArray, List.set_cons_zero, List.set_cons_succ]); go_big_quiet_on)
              (go_big_quiet_want; go_big_quiet_op; go_big_quiet_on)
              (go_big_quiet_want; refine ⟨.agg #[.bool mh, .int .u64 (lm uh 0 : Nat), .int .u64 (lm uh 1 : Nat), .int .u64 (lm uh 2 : Nat), .int .u64 (lm uh 3 : Nat)], fun w1 hw1 => ?_, ?_⟩; (rw [HC.out] at hw1; obtain ⟨_, _, _, _, _⟩ := (RYY.out.below hw1).all; simp [Oper.quietAt, go_sem, *]); (try simp only [Act.put, List.setIfInBounds_toArray, List.set_cons_zero, List.set_cons_succ]); go_big_quiet_on)
              (go_big_quiet_want; go_big_quiet_op; refine ⟨.int .i64 z4, fun w1 hw1 => ?_, ?_⟩; (rw [HC.out] at hw1 ⊢; with_reducible refine (C4.out _).mono ?_; rintro e w4 ⟨rfl, hb4⟩; exact ⟨rfl, below_trans hw1 hb4⟩); go_big_quiet_on)
              (go_big_quiet_want; refine ⟨.bool (decide (z4 < 0)), fun w1 hw1 => ?_, ?_⟩; (rw [HC.out] at hw1; obtain ⟨_, _, _, _, _⟩ := (RYY.out.below hw1).all; simp [Oper.quietAt, go_sem, *]); (try simp only [Act.put, List.setIfInBounds_toArray, List.set_cons_zero, List.set_cons_succ]); go_big_quiet_on)
              (refine wpQuiet_nil ?_; intro w2 hw2; rw [HC.out] at hw2)
              have IK := Lib.hid (IJ.out.drop hw2)
              clear IJ RXX RYY hw2
              by_cases cz : z4 < 0
              · repeat any_goals (first | go_skip | go_guarded | go_step | go_upon | (simp only []; done))
                go_roundw
                case rel => exact ⟨p + 1, q, ks', rfl, rfl, by omega, by omega, IK.out, SP.out.1 (J4.out.1 cz)⟩
                case measure => simp [intOf]; omega
              · repeat any_goals (first | go_skip | go_guarded | go_step | go_upon | (simp only []; done))
                go_roundw
                case rel => exact ⟨p, q + 1, ks', rfl, rfl, by omega, by omega, IK.out, SP.out.2 (fun h => cz (J4.out.2 h))⟩
                case measure => simp [intOf]; omega
      · have j2 : ¬ (q : Int) < (n2 : Int) := by omega
        repeat any_goals (first | go_skip | go_guarded | go_step | go_upon | (simp only []; done))
        refine (open_out (w := w) (M := n + m) (both_set HF.out.1 HF.out.2 (HP.out.fin (.inr (by rw [← HN.out.2]; omega)))) (by have := HK.out; omega) (by omega) w4.heap.size IH.out.o (HB.out.trans (below_weak IH.out.b HB.out.size))).mono ?_
        rintro e wz ⟨vz, rfl, hz⟩
        dsimp only []
        repeat any_goals (first | go_skip | go_guarded | go_step | go_upon | (simp only []; done))
        exact bodyPost_ret (v := vz) (by simp [results, Tryd.results49, go_sem]) rfl ⟨_, rfl, hz⟩
    · have j1 : ¬ (p : Int) < (n1 : Int) := by omega
      repeat any_goals (first | go_skip | go_guarded | go_step | go_upon | (simp only []; done))
      refine (open_out (w := w) (M := n + m) (both_set HF.out.1 HF.out.2 (HP.out.fin (.inl (by rw [← HN.out.1]; omega)))) (by have := HK.out; omega) (by omega) w4.heap.size IH.out.o (HB.out.trans (below_weak IH.out.b HB.out.size))).mono ?_
      rintro e wz ⟨vz, rfl, hz⟩
      dsimp only []
      repeat any_goals (first | go_skip | go_guarded | go_step | go_upon | (simp only []; done))
      exact bodyPost_ret (v := vz) (by simp [results, Tryd.results49, go_sem]) rfl ⟨_, rfl, hz⟩
set_option maxRecDepth 20000 in
set_option maxHeartbeats 1600000 in
/-- **And.** -/
theorem And_any (a : Option Addr) (n c : Nat) (S : Nat → Sp) (b : Option Addr) (m d : Nat) (T : Nat → Sp) (w : World) (h1 : SRow w a n c S) (h2 : SRow w b m d T) (hn : n ≤ 400000) (hm : m ≤ 400000) :
    Calls Tryd.prog 24 #[.slice a n c, .slice b m d] w fun e w' => ∃ v, e = .returned v ∧ SOut (fun z => mayR S n = true ∧ mayR T m = true ∧ (InS S n z ∧ InS T m z)) (n + m) w v w' := by
  have H1 := Lib.hid h1
  have H2 := Lib.hid h2
  obtain ⟨R1, hR1⟩ : ∃ R, R = mayR S n := ⟨_, rfl⟩
  obtain ⟨R2, hR2⟩ : ∃ R, R = mayR T m := ⟨_, rfl⟩
  have M1 := Lib.hid fun wx (hx : SRow wx a n c S) => PMayS_any a n c S wx hx
  have M2 := Lib.hid fun wx (hx : SRow wx b m d T) => PMayS_any b m d T wx hx
  rw [← hR1] at M1
  rw [← hR2] at M2
  have HR := Lib.hid (And.intro hR1 hR2)
  clear h1 h2 hR1 hR2
  go_enter Tryd.func24, Tryd.ntmps24
  cases R1 with
  | false =>
    repeat any_goals (first | (go_at_call 18; with_reducible refine (M1.out _ H1.out).mono ?_; rintro e w1 ⟨rfl, hb1⟩) | go_skip | go_guarded | go_step | go_upon | (dsimp only []))
    exact bodyPost_ret (v := .slice none 0 0) (by simp [results, Tryd.results24, go_sem]) rfl ⟨_, rfl, [], SetF.nil (fun z hz => by rw [← HR.out.1] at hz; cases hz.1), Nat.zero_le _, World.ownsRow_nil _ _ _ _, by (repeat first | with_reducible exact Below.refl _ _ | with_reducible assumption | with_reducible refine Below.drew ?_ | with_reducible refine below_alloc ?_ _ | ((with_reducible refine Below.setCell ?_ ?_ _); rotate_left; (focus (first | with_reducible exact Nat.le_refl _ | (simp; done) | (simp; omega) | omega))) | (with_reducible refine below_trans ?_ (by assumption)))⟩
  | true =>
    cases R2 with
    | false =>
      repeat any_goals (first | (go_at_call 18; with_reducible refine (M1.out _ H1.out).mono ?_; rintro e w1 ⟨rfl, hb1⟩) | (go_at_call 18; with_reducible refine (M2.out _ (H2.out.below hb1)).mono ?_; rintro e w2 ⟨rfl, hb2⟩) | go_skip | go_guarded | go_step | go_upon | (dsimp only []))
      exact bodyPost_ret (v := .slice none 0 0) (by simp [results, Tryd.results24, go_sem]) rfl ⟨_, rfl, [], SetF.nil (fun z hz => by rw [← HR.out.2] at hz; cases hz.2.1), Nat.zero_le _, World.ownsRow_nil _ _ _ _, by (repeat first | with_reducible exact Below.refl _ _ | with_reducible assumption | with_reducible refine Below.drew ?_ | with_reducible refine below_alloc ?_ _ | ((with_reducible refine Below.setCell ?_ ?_ _); rotate_left; (focus (first | with_reducible exact Nat.le_refl _ | (simp; done) | (simp; omega) | omega))) | (with_reducible refine below_trans ?_ (by assumption)))⟩
    | true =>
      repeat any_goals (first | (go_at_call 18; with_reducible refine (M1.out _ H1.out).mono ?_; rintro e w1 ⟨rfl, hb1⟩) | (go_at_call 18; with_reducible refine (M2.out _ (H2.out.below hb1)).mono ?_; rintro e w2 ⟨rfl, hb2⟩) | (go_at_call 49; have hb3 : Below w.heap.size w w2 := hb1.trans (below_weak hb2 hb1.size); with_reducible refine (Both_any a n c S b m d T w2 (H1.out.below hb3) (H2.out.below hb3) hn hm HR.out.1.symm HR.out.2.symm).mono ?_; rintro e w3 ⟨v3, rfl, h3⟩; dsimp only []) | go_skip | go_guarded | go_step | go_upon | (dsimp only []))
      exact bodyPost_ret (v := v3) (by simp [results, Tryd.results24, go_sem]) rfl ⟨_, rfl, by
        obtain ⟨l4, s1, s2, s3, s4⟩ := h3
        have hs := hb3.size
        exact ⟨l4, s1.congr (fun z => ⟨fun hz => ⟨HR.out.1.symm, HR.out.2.symm, hz⟩, fun hz => hz.2.2⟩), s2, s3.mono hs, hb3.trans (below_weak s4 hs)⟩⟩
end Go.Proofs.YtekeedjhaakbhaaDoor
