/- Contract of package nat: Print. -/
import Derived.Test.YtbakgmkkebnhkaaDoorDivN
import Derived.Test.YtbakgmkkebnhkaaDoorParN
import Derived.Test.YtbakgmkkebnhkaaDoorFmt
import Derived.Test.YtbakgmkkebnhkaaDoorShr
namespace Go.Proofs.YtbakgmkkebnhkaaDoor
open Go.RowKit Go.Sort
/-- k digits of r, with noughts ahead -/
def padD : Nat → Nat → List UInt8
  | 0, _ => []
  | k + 1, r => padD k (r / 10) ++ [UInt8.ofNat (48 + r % 10)]
theorem padD_add (q k r : Nat) (hq : 0 < q) (hr : r < 10 ^ k) : Lib.decDigits (q * 10 ^ k + r) = Lib.decDigits q ++ padD k r := by
  induction k generalizing r with
  | zero =>
    have : r = 0 := by simpa using hr
    subst this
    simp [padD]
  | succ k ih =>
    have h10 : 10 ^ (k + 1) = 10 * 10 ^ k := by rw [Nat.pow_succ, Nat.mul_comm]
    have hp := Nat.pow_pos (n := k) (show 0 < 10 from by decide)
    have hbig : ¬ q * 10 ^ (k + 1) + r < 10 := by
      have h1 := Nat.mul_le_mul hq (Nat.le_refl (10 ^ (k + 1)))
      rw [Nat.succ_eq_add_one, Nat.zero_add, Nat.one_mul] at h1
      omega
    have e1 : (q * 10 ^ (k + 1) + r) / 10 = q * 10 ^ k + r / 10 := by
      rw [h10, Nat.mul_left_comm, Nat.add_comm, Nat.add_mul_div_left _ _ (by decide), Nat.add_comm]
    have e2 : (q * 10 ^ (k + 1) + r) % 10 = r % 10 := by
      rw [h10, Nat.mul_left_comm, Nat.add_comm, Nat.add_mul_mod_self_left]
    rw [Lib.decDigits, dif_neg hbig, e1, e2, ih (r / 10) (by omega), padD, List.append_assoc]
theorem padD_zero (k : Nat) : padD k 0 = List.replicate k 48 := by
  induction k with
  | zero => rfl
  | succ k ih =>
    rw [padD, Nat.zero_div, ih, List.replicate_succ']
    rfl
theorem padD_eq (k r : Nat) (hr : r < 10 ^ (k + 1)) : padD (k + 1) r = List.replicate (k + 1 - (Lib.decDigits r).length) 48 ++ Lib.decDigits r := by
  induction k generalizing r with
  | zero =>
    have h : r < 10 := by simpa using hr
    rw [Lib.decDigits_one h, padD, padD, Nat.mod_eq_of_lt h]
    rfl
  | succ k ih =>
    by_cases h : r < 10
    · rw [Lib.decDigits_one h, padD, show r / 10 = 0 from by omega, padD_zero, Nat.mod_eq_of_lt h]
      rfl
    · have h10 : 10 ^ (k + 1 + 1) = 10 * 10 ^ (k + 1) := by rw [Nat.pow_succ, Nat.mul_comm]
      rw [padD, ih (r / 10) (by omega)]
      have e : Lib.decDigits r = Lib.decDigits (r / 10) ++ [UInt8.ofNat (48 + r % 10)] := by
        rw [Lib.decDigits, dif_neg h]
      rw [e, List.append_assoc, List.length_append]
      congr 2
      simp
theorem padD_len (k r : Nat) : (padD k r).length = k := by
  induction k generalizing r with
  | zero => rfl
  | succ k ih => rw [padD, List.length_append, ih]; rfl
theorem decDigits_len_le {n k : Nat} (h : n < 10 ^ (k + 1)) : (Lib.decDigits n).length ≤ k + 1 := by
  have h1 := padD_eq k n h
  have h2 := congrArg List.length h1
  rw [padD_len, List.length_append] at h2
  omega
theorem decDigits_pos (n : Nat) : 1 ≤ (Lib.decDigits n).length := by
  rw [Lib.decDigits_length]
  exact Lib.nDigits_pos n
theorem repeat_one (c : UInt8) (k : Nat) : Lib.repeatL [c] k = List.replicate k c := by
  induction k with
  | zero => rfl
  | succ k ih => rw [Lib.repeatL, ih]; rfl
/-- a round of Print -/
theorem print_round {A V : Nat} {T : List UInt8} (h : Lib.decDigits A = Lib.decDigits V ++ T) (hq : 0 < V / 10000000000000000000) :
    Lib.decDigits A = Lib.decDigits (V / 10000000000000000000) ++ ((Lib.repeatL [48] (19 - (Lib.decDigits (V % 10000000000000000000)).length) ++ Lib.decDigits (V % 10000000000000000000)) ++ T) := by
  have hr : V % 10000000000000000000 < 10 ^ (18 + 1) := Nat.mod_lt _ (by decide)
  have e : V = V / 10000000000000000000 * 10 ^ (18 + 1) + V % 10000000000000000000 := by
    rw [show (10 : Nat) ^ (18 + 1) = 10000000000000000000 from by decide]
    omega
  rw [h, repeat_one, ← List.append_assoc (Lib.decDigits (V / _)), show 19 = 18 + 1 from rfl, ← padD_eq 18 _ hr, ← padD_add _ _ _ hq hr, ← e]
theorem lm_z {V : Nat} (hV : V < 2 ^ 256) : (((lm V 0 : Nat) : Int) == 0 && ((lm V 1 : Nat) : Int) == 0 && ((lm V 2 : Nat) : Int) == 0 && ((lm V 3 : Nat) : Int) == 0) = (V == 0) := by
  by_cases c : V = 0
  · subst c
    rw [lm_zero, lm_zero, lm_zero, lm_zero]
    rfl
  · have h : ¬ (lm V 0 = 0 ∧ lm V 1 = 0 ∧ lm V 2 = 0 ∧ lm V 3 = 0) := fun h => c (lm_inj hV (by decide) (by rw [h.1, lm_zero]) (by rw [h.2.1, lm_zero]) (by rw [h.2.2.1, lm_zero]) (by rw [h.2.2.2, lm_zero]))
    have e : (V == 0) = false := by simpa using c
    rw [e, ← Bool.not_eq_true]
    intro h2
    simp at h2
    exact h ⟨h2.1.1.1, h2.1.1.2, h2.1.2, h2.2⟩
/-- the cells in the loop of Print: block w.heap.size holds the number -/
structure PrI (w wr : World) (V : Nat) : Prop where
  a : ∀ j, j < 4 → wr.cell? ⟨w.heap.size, j, none⟩ = some (.int .u64 (lm V j : Nat)) ∧ wr.frozen? ⟨w.heap.size, j, none⟩ = false
  b : Below w.heap.size w wr
  l : w.heap.size < wr.heap.size
theorem PrI.below {w wr wr' : World} {V : Nat} (h : PrI w wr V) (hb : Below wr.heap.size wr wr') : PrI w wr' V := by
  refine ⟨fun j hj => ?_, below_trans h.b hb, Nat.lt_of_lt_of_le h.l hb.size⟩
  rw [hb.cell (p := ⟨w.heap.size, j, none⟩) h.l, hb.frozen (p := ⟨w.heap.size, j, none⟩) h.l]
  exact h.a j hj
theorem PrI.alloc {w wr : World} {V : Nat} (h : PrI w wr V) (o : Obj) : PrI w (wr.alloc o) V := h.below (below_alloc (Below.refl _ _) _)
theorem PrI.set {w wr : World} {V W : Nat} (h : PrI w wr V) : PrI w ((((wr.setCell ⟨w.heap.size, 0, none⟩ (.int .u64 (lm W 0 : Nat))).setCell ⟨w.heap.size, 1, none⟩ (.int .u64 (lm W 1 : Nat))).setCell ⟨w.heap.size, 2, none⟩ (.int .u64 (lm W 2 : Nat))).setCell ⟨w.heap.size, 3, none⟩ (.int .u64 (lm W 3 : Nat))) W := by
  refine ⟨fun j hj => ⟨?_, ?_⟩, ?_, ?_⟩
  · have e0 := (h.a 0 (by decide)).1
    have e1 := (h.a 1 (by decide)).1
    have e2 := (h.a 2 (by decide)).1
    have e3 := (h.a 3 (by decide)).1
    match j, hj with
    | 0, _ => rw [set_other (by simp), set_other (by simp), set_other (by simp), World.cell?_setCell_same _ _ _ e0]
    | 1, _ => rw [set_other (by simp), set_other (by simp), World.cell?_setCell_same _ _ _ (by rw [set_other (by simp)]; exact e1)]
    | 2, _ => rw [set_other (by simp), World.cell?_setCell_same _ _ _ (by rw [set_other (by simp), set_other (by simp)]; exact e2)]
    | 3, _ => rw [World.cell?_setCell_same _ _ _ (by rw [set_other (by simp), set_other (by simp), set_other (by simp)]; exact e3)]
  · simp only [World.frozen?_setCell]
    exact (h.a j hj).2
  · have h1 := Nat.le_refl w.heap.size
    exact (((h.b.setCell h1 _).setCell h1 _).setCell h1 _).setCell h1 _
  · simpa using h.l
set_option maxRecDepth 20000 in
theorem prI_new {w : World} {A : Nat} {t : TypeId} : PrI w (w.alloc (.cells #[.int .u64 (lm A 0 : Nat), .int .u64 (lm A 1 : Nat), .int .u64 (lm A 2 : Nat), .int .u64 (lm A 3 : Nat)] t)) A := by
  refine ⟨?_, ?_, ?_⟩
  · intro j hj
    match j, hj with
    | 0, _ => simp [go_sem]
    | 1, _ => simp [go_sem]
    | 2, _ => simp [go_sem]
    | 3, _ => simp [go_sem]
  · (repeat first | with_reducible exact Below.refl _ _ | with_reducible assumption | with_reducible refine Below.drew ?_ | with_reducible refine below_alloc ?_ _ | ((with_reducible refine Below.setCell ?_ ?_ _); rotate_left; (focus (first | with_reducible exact Nat.le_refl _ | (simp; done) | (simp; omega) | omega))) | (with_reducible refine below_trans ?_ (by assumption)))
  · simp
theorem PrI.num {w wr : World} {V : Nat} (h : PrI w wr V) : (wr.cell? ⟨w.heap.size, 0, none⟩ = some (.int .u64 (lm V 0 : Nat)) ∧ wr.frozen? ⟨w.heap.size, 0, none⟩ = false) ∧ (wr.cell? ⟨w.heap.size, 1, none⟩ = some (.int .u64 (lm V 1 : Nat)) ∧ wr.frozen? ⟨w.heap.size, 1, none⟩ = false) ∧ (wr.cell? ⟨w.heap.size, 2, none⟩ = some (.int .u64 (lm V 2 : Nat)) ∧ wr.frozen? ⟨w.heap.size, 2, none⟩ = false) ∧ (wr.cell? ⟨w.heap.size, 3, none⟩ = some (.int .u64 (lm V 3 : Nat)) ∧ wr.frozen? ⟨w.heap.size, 3, none⟩ = false) :=
  ⟨h.a 0 (by decide), h.a 1 (by decide), h.a 2 (by decide), h.a 3 (by decide)⟩
set_option maxRecDepth 20000 in
theorem qcells {w w4 : World} {q : Nat} {t : TypeId} (hb : Below (w.alloc (.cells #[.int .u64 (lm q 0 : Nat), .int .u64 (lm q 1 : Nat), .int .u64 (lm q 2 : Nat), .int .u64 (lm q 3 : Nat)] t)).heap.size (w.alloc (.cells #[.int .u64 (lm q 0 : Nat), .int .u64 (lm q 1 : Nat), .int .u64 (lm q 2 : Nat), .int .u64 (lm q 3 : Nat)] t)) w4) :
    w4.cell? ⟨w.heap.size, 0, none⟩ = some (.int .u64 (lm q 0 : Nat)) ∧ w4.cell? ⟨w.heap.size, 1, none⟩ = some (.int .u64 (lm q 1 : Nat)) ∧ w4.cell? ⟨w.heap.size, 2, none⟩ = some (.int .u64 (lm q 2 : Nat)) ∧ w4.cell? ⟨w.heap.size, 3, none⟩ = some (.int .u64 (lm q 3 : Nat)) := by
  refine ⟨?_, ?_, ?_, ?_⟩
  · rw [hb.cell (p := ⟨w.heap.size, 0, none⟩) (by simp)]; simp [go_sem]
  · rw [hb.cell (p := ⟨w.heap.size, 1, none⟩) (by simp)]; simp [go_sem]
  · rw [hb.cell (p := ⟨w.heap.size, 2, none⟩) (by simp)]; simp [go_sem]
  · rw [hb.cell (p := ⟨w.heap.size, 3, none⟩) (by simp)]; simp [go_sem]
/-- a text's length (in a loop's measure) -/
def sizeOfS : Value → Nat
  | .string s => s.size
  | _ => 0
set_option maxRecDepth 20000 in
set_option maxHeartbeats 1600000 in
/-- **Print.** -/
theorem PrN_any (A : Nat) (hA : A < 2 ^ 256) (w : World) (hT : Tab10 w) :
    Calls Tryd.prog 41 #[.agg #[.int .u64 (lm (A) 0 : Nat), .int .u64 (lm (A) 1 : Nat), .int .u64 (lm (A) 2 : Nat), .int .u64 (lm (A) 3 : Nat)]] w fun e w' => e = .returned (.string (decS A)) ∧ Below w.heap.size w w' := by
  have hlA : (Lib.decDigits A).length ≤ 78 := decDigits_len_le (k := 77) (Nat.lt_of_lt_of_le hA (by decide))
  obtain ⟨R, hR⟩ : ∃ R, R = decS A := ⟨_, rfl⟩
  rw [← hR]
  have HK := Lib.hid (And.intro hA (And.intro hlA (And.intro hR hT)))
  clear hA hlA hR hT
  go_enter Tryd.func41, Tryd.ntmps41
  repeat any_goals (first | go_skip | go_guarded | go_step | go_upon | (simp only []; done))
  go_loopw [3] (fun s wr => ∃ (T : ByteArray) (V : Nat), s = .string T ∧ V < 2 ^ 256 ∧ Lib.decDigits A = Lib.decDigits V ++ T.data.toList ∧ PrI w wr V) (fun s _ => 100 - sizeOfS s)
  case atStart =>
    exact ⟨⟨#[]⟩, A, rfl, HK.out.1, by simp, prI_new⟩
  case round =>
    obtain ⟨T, V, rfl, hV, hdg, I⟩ := hrel
    have DH := Lib.hid (fun w => DivN_any V 10000000000000000000 hV (by decide) (by decide) w)
    have hq : V / 10000000000000000000 < 2 ^ 256 := Nat.lt_of_le_of_lt (Nat.div_le_self _ _) hV
    have hr : V % 10000000000000000000 < 18446744073709551616 := Nat.lt_of_lt_of_le (Nat.mod_lt _ (by decide)) (by decide)
    have hz := lm_z hq
    obtain ⟨q, hqe⟩ : ∃ q, q = V / 10000000000000000000 := ⟨_, rfl⟩
    obtain ⟨r, hre⟩ : ∃ r, r = V % 10000000000000000000 := ⟨_, rfl⟩
    rw [← hqe] at DH hq hz
    rw [← hre] at DH hr
    obtain ⟨K, hK⟩ : ∃ K, T.size = K := ⟨_, rfl⟩
    have FH := Lib.hid (fun w hT => Fmt_any r hr w hT)
    obtain ⟨p, hp⟩ : ∃ p, p = decS r := ⟨_, rfl⟩
    rw [← hp] at FH
    obtain ⟨L, hL⟩ : ∃ L, p.size = L := ⟨_, rfl⟩
    have hKL : K ≤ 77 := by
      have h1 := congrArg List.length hdg
      have h2 := decDigits_pos V
      have h3 := HK.out.2.1
      rw [List.length_append, show T.data.toList.length = K from Array.length_toList.trans hK] at h1
      omega
    have hLL : 1 ≤ L ∧ L ≤ 19 := by
      have h1 : (Lib.decDigits r).length ≤ 19 := decDigits_len_le (k := 18) (by rw [hre]; exact Nat.mod_lt _ (by decide))
      have h2 := decDigits_pos r
      have h3 : L = (Lib.decDigits r).length := by rw [← hL, hp]; unfold decS; exact List.size_toArray
      omega
    obtain ⟨⟨y0, g0⟩, ⟨y1, g1⟩, ⟨y2, g2⟩, ⟨y3, g3⟩⟩ := I.num
    have IH := Lib.hid I
    have GH := Lib.hid (And.intro hdg (And.intro hqe (And.intro hre (And.intro hp (And.intro hV hq)))))
    clear hdg hqe hre hp hV hq I hr
    by_cases c0 : q = 0
    · have hz0 := hz
      rw [c0, show ((0 : Nat) == 0) = true from rfl, ← c0] at hz0
      clear hz
      have hfin : p ++ T = R := by
        obtain ⟨h1, h2, h3, h4, h5, h6⟩ := GH.out
        have hrV : r = V := by omega
        rw [HK.out.2.2.1, h4, hrV]
        unfold decS
        rw [h1, show T = ⟨T.data.toList.toArray⟩ from by simp, ByteArray.mk_append_mk]
      have hsz : ¬ 9223372036854775807 < L + K := by omega
      repeat any_goals (first | (go_at_call 66; refine (DH.out _).mono ?_; rintro e w3 ⟨rfl, hb3⟩; have J := Lib.hid (IH.out.below hb3)) | (go_at_call 67; refine (FH.out _ ((HK.out.2.2.2.below J.out.b).alloc _)).mono ?_; rintro e w4 ⟨rfl, hb4⟩; have J4 := Lib.hid ((J.out.alloc _).below hb4); obtain ⟨⟨x0, f0⟩, ⟨x1, f1⟩, ⟨x2, f2⟩, ⟨x3, f3⟩⟩ := J4.out.num; obtain ⟨u0, u1, u2, u3⟩ := qcells hb4; have FS := Lib.hid (J4.out.set (W := q))) | go_skip | go_guarded | go_step | go_upon | (dsimp only []))
      have hW := J4.out.b
      exact bodyPost_ret (v := .string R) (by simp [results, Tryd.results41, go_sem]) rfl ⟨rfl, by (repeat first | with_reducible exact Below.refl _ _ | with_reducible assumption | with_reducible refine Below.drew ?_ | with_reducible refine below_alloc ?_ _ | ((with_reducible refine Below.setCell ?_ ?_ _); rotate_left; (focus (first | with_reducible exact Nat.le_refl _ | (simp; done) | (simp; omega) | omega))) | (with_reducible refine below_trans ?_ (by assumption)))⟩
    · have hz0 := hz
      rw [show (q == 0) = false from by simp [c0]] at hz0
      clear hz
      obtain ⟨c, hc⟩ : ∃ c, c = 19 - L := ⟨_, rfl⟩
      have hci : (19 : Int) - (L : Int) = (c : Int) := by omega
      obtain ⟨Z, hZ⟩ : ∃ Z : ByteArray, Z = ⟨(Lib.repeatL [48] c).toArray⟩ := ⟨_, rfl⟩
      have hZs : Z.size = c := by
        rw [hZ]
        show (Lib.repeatL [48] c).toArray.size = c
        rw [List.size_toArray, Lib.repeatL_length]
        simp
      have RH : Hid (∀ w, Calls Tryd.prog 68 #[.string ⟨#[48]⟩, .int .i64 (c : Int)] w fun e w' => e = .returned (.string Z) ∧ Below w.heap.size w w') := Lib.hid fun w => by
        rw [hZ]
        exact Tryd.strings_Repeat ⟨#[48]⟩ c w (by omega) (by show 1 * c ≤ _; omega)
      have hsz1 : ¬ 9223372036854775807 < c + L := by omega
      have hsz2 : ¬ 9223372036854775807 < c + L + K := by omega
      have hzp : (Z ++ p).size = c + L := by rw [ByteArray.size_append, hZs, hL]
      have hzpt : (Z ++ p ++ T).size = c + L + K := by rw [ByteArray.size_append, hzp, hK]
      have hnew : Lib.decDigits A = Lib.decDigits q ++ (Z ++ p ++ T).data.toList := by
        obtain ⟨h1, h2, h3, h4, h5, h6⟩ := GH.out
        have h7 := print_round h1 (by rw [← h2]; omega)
        rw [← h2, ← h3] at h7
        rw [h7, hZ, h4, hc]
        have hL2 : (Lib.decDigits r).length = L := by
          rw [← hL, h4]
          exact List.size_toArray.symm
        rw [hL2]
        unfold decS
        rw [show T = ⟨T.data.toList.toArray⟩ from by simp, ByteArray.mk_append_mk, ByteArray.mk_append_mk]
      have NH := Lib.hid hnew
      have hcL : c + L = 19 := by omega
      clear hZ hnew hc
      repeat any_goals (first | (go_at_call 66; refine (DH.out _).mono ?_; rintro e w3 ⟨rfl, hb3⟩; have J := Lib.hid (IH.out.below hb3)) | (go_at_call 67; refine (FH.out _ ((HK.out.2.2.2.below J.out.b).alloc _)).mono ?_; rintro e w4 ⟨rfl, hb4⟩; have J4 := Lib.hid ((J.out.alloc _).below hb4); obtain ⟨⟨x0, f0⟩, ⟨x1, f1⟩, ⟨x2, f2⟩, ⟨x3, f3⟩⟩ := J4.out.num; obtain ⟨u0, u1, u2, u3⟩ := qcells hb4; have FS := Lib.hid (J4.out.set (W := q))) | (go_at_call 68; with_reducible refine (RH.out _).mono ?_; rintro e w5 ⟨rfl, hb5⟩; have FS5 := Lib.hid (FS.out.below hb5)) | go_skip | go_guarded | go_step | go_upon | (dsimp only []))
      go_roundw
      case rel => exact ⟨Z ++ p ++ T, q, rfl, GH.out.2.2.2.2.2, NH.out, FS5.out⟩
      case measure => simp [sizeOfS, hzpt, hK]; omega
end Go.Proofs.YtbakgmkkebnhkaaDoor
