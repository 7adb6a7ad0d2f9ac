/- Contracts of the document's digits: Less. · Contracts of the document's digits: Print. · Contracts of the document's digits: Digits. · Contracts of the document's answer on texts: Parse. -/
import Derived.Test.YtbakgmkkebnhkaaDoorDM1
import Derived.Test.YtbakgmkkebnhkaaDoorPrN
import Derived.Test.YtbakgmkkebnhkaaDoorParN
import Derived.Test.YtbakgmkkebnhkaaDoorBox
namespace Go.Proofs.YtbakgmkkebnhkaaDoor
open Go.RowKit
theorem div_digit (A d i : Nat) (hd : 0 < d) : (A / 2 ^ (32 * (i + 1)) % d * 4294967296 + dig A i) / d = dig (A / d) i ∧ (A / 2 ^ (32 * (i + 1)) % d * 4294967296 + dig A i) % d = A / 2 ^ (32 * i) % d := by
  have e1 := top_digit A i
  have hx := dig_lt A i
  obtain ⟨U, hU⟩ : ∃ U, U = A / 2 ^ (32 * (i + 1)) := ⟨_, rfl⟩
  rw [← hU] at e1 ⊢
  have hm := Nat.div_add_mod U d
  have hr : U % d < d := Nat.mod_lt _ hd
  obtain ⟨x, hx2⟩ : ∃ x, x = dig A i := ⟨_, rfl⟩
  rw [← hx2] at e1 hx ⊢
  have e2 : U * 4294967296 + x = (U % d * 4294967296 + x) + d * (U / d * 4294967296) := by
    conv => lhs; rw [← hm]
    rw [Nat.add_mul, Nat.mul_assoc]
    omega
  have hq : (U % d * 4294967296 + x) / d < 4294967296 := by
    rw [Nat.div_lt_iff_lt_mul hd, Nat.mul_comm]
    have : (U % d + 1) * 4294967296 ≤ d * 4294967296 := Nat.mul_le_mul_right _ hr
    omega
  constructor
  · show _ = A / d / 2 ^ (32 * i) % 4294967296
    rw [Nat.div_div_eq_div_mul, Nat.mul_comm d, ← Nat.div_div_eq_div_mul, e1, e2, Nat.add_mul_div_left _ _ hd, Nat.add_mul_mod_self_right, Nat.mod_eq_of_lt hq]
  · rw [e1, e2, Nat.add_mul_mod_self_left]
/-- the digits from m on -/
def upD (V m : Nat) : Nat := V / 2 ^ (32 * m) * 2 ^ (32 * m)
theorem upD_zero (V : Nat) : upD V 0 = V := by unfold upD; simp
theorem upD_top {V m : Nat} (h : V < 2 ^ (32 * m)) : upD V m = 0 := by unfold upD; rw [Nat.div_eq_of_lt h, Nat.zero_mul]
theorem upD_step (V i : Nat) : sd (upD V (i + 1)) i (dig V i) = upD V i := by
  have hp := Nat.two_pow_pos (32 * i)
  have hp2 := Nat.two_pow_pos (32 * (i + 1))
  have e : 2 ^ (32 * (i + 1)) = 2 ^ (32 * i) * 4294967296 := by
    rw [show 32 * (i + 1) = 32 * i + 32 from by omega, Nat.pow_add]
  have h1 : upD V (i + 1) % 2 ^ (32 * i) = 0 := by
    unfold upD
    rw [e, Nat.mul_left_comm, Nat.mul_mod_right]
  have h2 : upD V (i + 1) / 2 ^ (32 * (i + 1)) = V / 2 ^ (32 * (i + 1)) := by
    unfold upD
    rw [Nat.mul_div_cancel _ hp2]
  unfold sd
  rw [h1, h2, Nat.zero_add]
  unfold upD
  rw [top_digit V i]
  generalize 2 ^ (32 * i) = T
  generalize dig V i = x
  generalize V / 2 ^ (32 * (i + 1)) = y
  rw [Nat.mul_comm T, Nat.add_comm x, Nat.mul_comm 4294967296 y]
set_option maxRecDepth 20000 in
set_option maxHeartbeats 1600000 in
theorem DLess_walk (ba n ca A d : Nat) (w : World) (hn : n ≤ 1000000) (hn0 : 0 < n) (hd : 0 < d) (hd2 : (d : Int) < 4294967296) (hbw : ba < w.heap.size) (hcell : ∀ j, j < n → w.cell? ⟨ba, j, none⟩ = some (.int .u32 (dig A j : Nat))) (hA : A < 2 ^ (32 * n)) :
    Calls Tryd.prog 70 #[.slice (some ⟨ba, 0, none⟩) n ca, .int .u32 (d : Int)] w fun e w' => ∃ v, e = .returned (.tuple #[v, .int .u32 (A % d : Nat)]) ∧ IsD w' v (A / d) ∧ Below w.heap.size w w' := by
  obtain ⟨i0, hi, hz0, hz1, hz2⟩ := info_parts infoU32
  have H := Lib.hid (And.intro hcell (And.intro hA hd))
  have hd0 : ((d : Int) == 0) = false := by simp; omega
  have hd3 : 0 < (d : Int) := by omega
  clear hcell hA hd
  go_enter Tryd.func70, Tryd.ntmps70
  repeat any_goals (first | (at_make; refine wpList_make_full _ rfl (.tmp 10) (.tmp 10) 54 rfl w.heap.size 64 i0 (.int .u32 0) 1 Tryd.underlying54 hi hz0 hz1 .i64 .i64 _ _ n rfl rfl (by omega) (by omega) (by rw [hz2]; omega) (by unfold maxLen; omega) (Nat.le_refl _) ?_; intro w1 hown hgrow; rw [madeCells_digl] at hown; have OH := Lib.hid (And.intro hown hgrow); clear hown hgrow) | go_skip | go_guarded | go_step | go_upon | (dsimp only []))
  go_loopw [7, 8] (fun c i wr => ∃ m : Nat, m ≤ n ∧ i = .int .i64 ((m : Int) - 1) ∧ c = .int .u64 (A / 2 ^ (32 * m) % d : Nat) ∧ wr.ownsRow w.heap.size 64 1 (.slice (some ⟨w.heap.size, 0, none⟩) n n) n (digl (upD (A / d) m) n) ∧ Below w.heap.size w wr)
    (fun _ i _ => (intOf i + 1).toNat)
  case atStart =>
    refine ⟨n, by omega, rfl, ?_, ?_, (Below.refl _ _).grown OH.out.2 (Nat.le_refl _) (fun k h => by cases h)⟩
    · rw [Nat.div_eq_of_lt H.out.2.1, Nat.zero_mod]
      rfl
    · rw [upD_top (Nat.lt_of_le_of_lt (Nat.div_le_self _ _) H.out.2.1)]
      exact OH.out.1
  case round =>
    obtain ⟨m, hm, rfl, rfl, hown, hbel⟩ := hrel
    by_cases c0 : m = 0
    · subst c0
      rw [upD_zero] at hown
      have hD := Lib.hid (DN_own hown (Nat.lt_of_le_of_lt (Nat.div_le_self _ _) H.out.2.1) (by omega))
      rw [Nat.mul_zero, Nat.pow_zero, Nat.div_one]
      obtain ⟨r, hr⟩ : ∃ r, r = A % d := ⟨_, rfl⟩
      rw [← hr]
      have hrl : r < d := by rw [hr]; exact Nat.mod_lt _ H.out.2.2
      have hr4 : (r : Int) < 4294967296 := by omega
      have hrw : IntKind.u32.wrap (r : Int) = (r : Int) := by rw [IntKind.wrap_u32]; omega
      have HR := Lib.hid hr
      clear hown hr
      repeat any_goals (first | (go_at_call 69; refine (trim_any _ _ _ _ hD.out).mono ?_; rintro e w' ⟨⟨v, rfl, hv⟩, rfl⟩) | go_skip | go_guarded | go_step | go_upon | (dsimp only []))
      refine bodyPost_ret (v := .tuple #[v, .int .u32 (r : Int)]) (by simp [results, Tryd.results70, go_sem]) rfl ⟨v, by rw [HR.out], hv, hbel⟩
    · obtain ⟨i, rfl⟩ : ∃ i, m = i + 1 := ⟨m - 1, by omega⟩
      rw [show ((i + 1 : Nat) : Int) - 1 = (i : Int) from by omega]
      obtain ⟨q1, q2⟩ := div_digit A d i H.out.2.2
      have ca := (hbel.cell (p := ⟨ba, i, none⟩) hbw).trans (H.out.1 i (by omega))
      obtain ⟨c, hc⟩ : ∃ c, c = A / 2 ^ (32 * (i + 1)) % d := ⟨_, rfl⟩
      obtain ⟨x, hx⟩ : ∃ x, x = dig A i := ⟨_, rfl⟩
      obtain ⟨q, hq⟩ : ∃ q, q = dig (A / d) i := ⟨_, rfl⟩
      obtain ⟨c', hc'⟩ : ∃ c, c = A / 2 ^ (32 * i) % d := ⟨_, rfl⟩
      have hx4 : x < 4294967296 := hx ▸ dig_lt _ _
      have hq4 : q < 4294967296 := hq ▸ dig_lt _ _
      have hcd : c < d := by rw [hc]; exact Nat.mod_lt _ H.out.2.2
      rw [← hc, ← hx] at q1 q2
      rw [← hq] at q1
      rw [← hc'] at q2
      rw [← hx] at ca
      rw [← hc]
      obtain ⟨t, ht⟩ : ∃ t, t = c * 4294967296 + x := ⟨_, rfl⟩
      rw [← ht] at q1 q2
      have ht64 : t < 18446744073709551616 := by omega
      have o1 : bits BinOp.or IntKind.u64 ((c : Int) * 4294967296) (x : Int) = (t : Int) := by
        have h := u64_or_nat (c * 4294967296) x (by omega) (by omega)
        rw [show (c * 4294967296 : Nat) ||| x = t from by
          rw [ht, show c * 4294967296 = 2 ^ 32 * c from by omega, ← Nat.two_pow_add_eq_or_of_lt hx4]] at h
        rw [← h]
        simp
      have d1 : (t : Int) / (d : Int) = (q : Int) := by rw [← q1]; simp
      have d2 : (t : Int) % (d : Int) = (c' : Int) := by rw [← q2]; simp
      have d3 : IntKind.u64.wrap (q : Int) = (q : Int) := by rw [IntKind.wrap_u64]; omega
      have d4 : IntKind.u32.wrap (q : Int) = (q : Int) := by rw [IntKind.wrap_u32]; omega
      obtain ⟨s1, s2⟩ := row_store2 (q := i) (lo := q) hown (Nat.le_refl _) hbel hq4
      have s3 : digl (sd (upD (A / d) (i + 1)) i q) n = digl (upD (A / d) i) n := by rw [hq, upD_step]
      rw [s3] at s1
      have co := hown.cellAt i (show i < n * 1 by omega)
      have fo := hown.frozenAt i
      rw [digl_get (show i < n by omega)] at co
      have FH := Lib.hid (And.intro s1 (And.intro s2 hc'))
      have i1 : (i : Int) < (n : Int) := by omega
      have i2 : (0 : Int) ≤ (i : Int) := by omega
      clear s1 s2 s3 hown hc hx hq hc' ht q1 q2 hq4
      repeat any_goals (first | go_skip | go_guarded | go_step | go_upon | (simp only []; done))
      refine ⟨⟨i, by omega, by go_num, by rw [d2, FH.out.2.2], FH.out.1, FH.out.2.1⟩, ?_⟩
      first | (simp [intOf]; done) | (simp [intOf]; omega)
/-- **Less.** -/
theorem LessI_any (v : Value) (A d : Nat) (w : World) (h : IsD w v A) (hA : 0 < A) (hl : dl A ≤ 1000) (hd : 0 < d) (hd2 : d < 4294967296) :
    Calls Tryd.prog 70 #[v, .int .u32 (d : Int)] w fun e w' => ∃ v, e = .returned (.tuple #[v, .int .u32 (A % d : Nat)]) ∧ IsD w' v (A / d) ∧ Below w.heap.size w w' := by
  obtain ⟨hV, _, ao, cap, rfl, _, _, hc⟩ := h
  obtain ⟨b, rfl, hb, hce⟩ := hc (dl_pos hA)
  exact DLess_walk b (dl A) cap A d w (by omega) (dl_pos hA) hd (by omega) hb hce hV
end Go.Proofs.YtbakgmkkebnhkaaDoor

namespace Go.Proofs.YtbakgmkkebnhkaaDoor
open Go.RowKit Go.Sort
theorem dec_snoc {V : Nat} (h : 0 < V / 10) : Lib.decDigits V = Lib.decDigits (V / 10) ++ [UInt8.ofNat (48 + V % 10)] := by
  have : ¬ V < 10 := by omega
  rw [Lib.decDigits, dif_neg this]
theorem dec_last {V : Nat} (h : V / 10 = 0) : Lib.decDigits V = [UInt8.ofNat (48 + V % 10)] := by
  have h1 : V < 10 := by omega
  rw [Lib.decDigits_one h1, Nat.mod_eq_of_lt h1]
/-- one byte as a text -/
theorem byte_text (r : Nat) (hr : r < 10) (W : World) : (convert 81 9 (.slice (some ⟨W.heap.size, 0, none⟩) 1 1)).run Tryd.prog (W.alloc (.cells #[.int .u8 (48 + (r : Int))] 5)) = .ok (.string ⟨#[UInt8.ofNat (48 + r)]⟩) (W.alloc (.cells #[.int .u8 (48 + (r : Int))] 5)) := by
  have h := run_convert_bytes_back (P := Tryd.prog) (W.alloc (.cells #[.int .u8 (48 + (r : Int))] 5)) 81 9 5 ⟨W.heap.size, 0, none⟩ 1 [UInt8.ofNat (48 + r)] Tryd.underlying81 Tryd.underlying5 Tryd.underlying9 (fun j hj => by
    have hj0 : j = 0 := by simpa using hj
    subst hj0
    simp [go_sem, Addr.add]
    omega)
  exact h
set_option maxRecDepth 20000 in
set_option maxHeartbeats 400000 in
theorem DPrint_zero (v : Value) (w : World) (h : IsD w v 0) :
    Calls Tryd.prog 43 #[v] w fun e w' => e = .returned (.string ⟨#[48]⟩) ∧ Below w.heap.size w w' := by
  have H := Lib.hid h
  clear h
  go_enter Tryd.func43, Tryd.ntmps43
  go_upto_region 1 with fail
  repeat any_goals (first | (go_at_call 69; refine (trim_any _ _ _ _ H.out).mono ?_; rintro e w' ⟨⟨u, rfl, hu⟩, rfl⟩; obtain ⟨_, _, ao, cap, rfl, _⟩ := hu) | go_skip | go_guarded | go_step | go_upon | (dsimp only []))
  exact bodyPost_ret (v := .string ⟨#[48]⟩) (by simp [results, Tryd.results43, go_sem]) rfl ⟨rfl, Below.refl _ _⟩
set_option maxRecDepth 20000 in
set_option maxHeartbeats 1600000 in
theorem DPrint_walk (v : Value) (A : Nat) (w : World) (h : IsD w v A) (hA0 : 0 < A) (hA : A < 2 ^ 256) :
    Calls Tryd.prog 43 #[v] w fun e w' => e = .returned (.string (decS A)) ∧ Below w.heap.size w w' := by
  have hlA : (Lib.decDigits A).length ≤ 78 := decDigits_len_le (k := 77) (Nat.lt_of_lt_of_le hA (by decide))
  obtain ⟨R, hR⟩ : ∃ R, R = decS A := ⟨_, rfl⟩
  rw [← hR]
  have H := Lib.hid (And.intro h (And.intro hA (And.intro hlA hR)))
  have hdA := dl_pos hA0
  clear h hA hlA hR
  go_enter Tryd.func43, Tryd.ntmps43
  go_upto_region 3 with (first | (go_at_call 69; refine (trim_any _ _ _ _ H.out.1).mono ?_; rintro e w' ⟨⟨u, rfl, hu⟩, rfl⟩; obtain ⟨_, _, ao, cap, rfl, _⟩ := hu))
  repeat any_goals (first | go_skip | go_guarded | go_step | go_upon | (simp only []; done))
  go_loopw [0, 3] (fun u t wr => ∃ (T : ByteArray) (V : Nat), t = .string T ∧ V < 2 ^ 256 ∧ IsD wr u V ∧ ((0 < V ∧ Lib.decDigits A = Lib.decDigits V ++ T.data.toList) ∨ (V = 0 ∧ Lib.decDigits A = T.data.toList)) ∧ Below w.heap.size w wr) (fun _ t _ => 100 - sizeOfS t)
  case atStart =>
    exact ⟨⟨#[]⟩, A, rfl, H.out.2.1, H.out.1, .inl ⟨hA0, by simp⟩, Below.refl _ _⟩
  case round =>
    obtain ⟨T, V, rfl, hV, hu, hdg, hW⟩ := hrel
    have UH := Lib.hid hu
    obtain ⟨_, _, ao, cap, rfl, _⟩ := hu
    obtain ⟨n, hn⟩ : ∃ n, n = dl V := ⟨_, rfl⟩
    rw [← hn]
    obtain ⟨K, hK⟩ : ∃ K, T.size = K := ⟨_, rfl⟩
    rcases hdg with ⟨hV0, hdg⟩ | ⟨hV0, hdg⟩
    · have hn0 : 0 < (n : Int) := by
        have := dl_pos hV0
        omega
      have hKL : K ≤ 77 := by
        have h1 := congrArg List.length hdg
        have h2 := decDigits_pos V
        have h3 := H.out.2.2.1
        rw [List.length_append, show T.data.toList.length = K from Array.length_toList.trans hK] at h1
        omega
      have LH := Lib.hid (fun W h => LessI_any (.slice ao n cap) V 10 W h hV0 (Nat.le_trans (dl8 hV) (by decide)) (by decide) (by decide))
      obtain ⟨q, hq⟩ : ∃ q, q = V / 10 := ⟨_, rfl⟩
      obtain ⟨r, hr⟩ : ∃ r, r = V % 10 := ⟨_, rfl⟩
      have hr10 : r < 10 := by omega
      have hri : (r : Int) < 10 := by omega
      have L2 : Hid (Calls Tryd.prog 70 #[.slice ao n cap, .int .u32 10] wr fun e w' => ∃ v, e = .returned (.tuple #[v, .int .u32 (r : Int)]) ∧ IsD w' v q ∧ Below wr.heap.size wr w') := Lib.hid (by
        have h := LH.out wr (by rw [hn]; exact UH.out)
        rw [← hq, ← hr] at h
        exact h)
      have BT := byte_text r hr10
      obtain ⟨ch, hch⟩ : ∃ ch : ByteArray, ch = ⟨#[UInt8.ofNat (48 + r)]⟩ := ⟨_, rfl⟩
      rw [← hch] at BT
      have hcs : ch.size = 1 := by rw [hch]; rfl
      have hsz : ¬ 9223372036854775807 < 1 + K := by omega
      have hcz : (ch ++ T).size = 1 + K := by rw [ByteArray.size_append, hcs, hK]
      have hcl : (ch ++ T).data.toList = [UInt8.ofNat (48 + r)] ++ T.data.toList := by
        rw [hch]
        simp
      have hnew : (0 < q ∧ Lib.decDigits A = Lib.decDigits q ++ (ch ++ T).data.toList) ∨ (q = 0 ∧ Lib.decDigits A = (ch ++ T).data.toList) := by
        rw [hcl]
        by_cases c : q = 0
        · refine .inr ⟨c, ?_⟩
          rw [hdg, dec_last (by omega), ← hr]
        · refine .inl ⟨by omega, ?_⟩
          rw [hdg, dec_snoc (by omega), ← hq, ← hr, List.append_assoc]
      have NH := Lib.hid (And.intro hnew (show q < 2 ^ 256 by omega))
      clear hnew hcl hch hdg hq hr hV hn LH
      repeat any_goals (first | (go_at_call 70; with_reducible refine L2.out.mono ?_; rintro e w2 ⟨v2, rfl, hv2, hb2⟩; have bt := BT w2) | go_skip | go_guarded | go_step | go_upon | (dsimp only []))
      refine ⟨⟨ch ++ T, q, rfl, NH.out.2, hv2.alloc _, NH.out.1, by (repeat first | with_reducible exact Below.refl _ _ | with_reducible assumption | with_reducible refine Below.drew ?_ | with_reducible refine below_alloc ?_ _ | ((with_reducible refine Below.setCell ?_ ?_ _); rotate_left; (focus (first | with_reducible exact Nat.le_refl _ | (simp; done) | (simp; omega) | omega))) | (with_reducible refine below_trans ?_ (by assumption)))⟩, ?_⟩
      simp [sizeOfS, hcz, hK]
      omega
    · have hn0 : n = 0 := by rw [hn, hV0]; exact dl_zero
      have hR : R = T := by
        rw [H.out.2.2.2]
        unfold decS
        rw [hdg]
      subst hn0 hR
      clear hn hdg
      repeat any_goals (first | go_skip | go_guarded | go_step | go_upon | (simp only []; done))
      exact bodyPost_ret (v := .string R) (by simp [results, Tryd.results43, go_sem]) rfl ⟨rfl, hW⟩
/-- **Print.** -/
theorem DPrint_any (v : Value) (A : Nat) (w : World) (h : IsD w v A) (hA : A < 2 ^ 256) :
    Calls Tryd.prog 43 #[v] w fun e w' => e = .returned (.string (decS A)) ∧ Below w.heap.size w w' := by
  by_cases c : A = 0
  · subst c
    rw [show decS 0 = ⟨#[48]⟩ from by unfold decS; rw [Lib.decDigits_one (by decide)]; rfl]
    exact DPrint_zero v w h
  · exact DPrint_walk v A w h (by omega) hA
end Go.Proofs.YtbakgmkkebnhkaaDoor

namespace Go.Proofs.YtbakgmkkebnhkaaDoor
open Go.RowKit
theorem dec_le (l : List UInt8) (h : l.all isDg = true) (v : Nat) : decN v l < (v + 1) * 10 ^ l.length := by
  induction l generalizing v with
  | nil => show v < (v + 1) * 10 ^ 0; omega
  | cons c l ih =>
    rw [List.all_cons, Bool.and_eq_true] at h
    have hc : c.toNat ≤ 57 := by
      have := of_decide_eq_true h.1
      exact this.2
    have h1 := ih h.2 (v * 10 + (c.toNat - 48))
    have h2 : (v * 10 + (c.toNat - 48) + 1) * 10 ^ l.length ≤ ((v + 1) * 10) * 10 ^ l.length := Nat.mul_le_mul_right _ (by omega)
    rw [List.length_cons, Nat.pow_succ', ← Nat.mul_assoc]
    exact Nat.lt_of_lt_of_le h1 h2
set_option maxRecDepth 20000 in
/-- a slice of one digit -/
theorem ten_digit (W : World) : IsD (W.alloc (.cells #[.int .u32 10] 64)) (.slice (some ⟨W.heap.size, 0, none⟩) 1 1) 10 := by
  have e : dl 10 = 1 := by decide
  unfold IsD
  rw [e]
  refine ⟨by decide, by decide, _, 1, rfl, Nat.le_refl _, by decide, fun _ => ⟨W.heap.size, rfl, by simp, fun j hj => ?_⟩⟩
  have hj0 : j = 0 := by omega
  subst hj0
  simp [go_sem, dig]
theorem dl_small {V : Nat} (h : V < 10 ^ 100) : dl V ≤ 20 := (dl_le_iff V 20).2 (Nat.lt_of_lt_of_le h (by decide +kernel))
set_option maxRecDepth 20000 in
set_option maxHeartbeats 3200000 in
theorem DDigits_walk (s : ByteArray) (n : Nat) (hn : (s.size : Int) = n) (hl : s.data.toList.length = n) (n0 : (n : Int) ≤ 100) (x : Bool) (hx : (!s.toList.isEmpty) = x) (w : World) :
    Calls Tryd.prog 64 #[.string s] w fun e w' => ∃ v, (s.data.toList.all isDg = true ∧ e = .returned (.tuple #[v, .bool x]) ∧ IsD w' v (decN 0 s.data.toList) ∨ s.data.toList.all isDg = false ∧ e = .returned (.tuple #[v, .bool false])) ∧ Below w.heap.size w w' := by
  have HL := Lib.hid hl
  clear hl
  go_enter Tryd.func64, Tryd.ntmps64
  repeat any_goals (first | go_skip | go_guarded | go_step | go_upon | (simp only []; done))
  go_loopw [4, 5] (fun d i wr => ∃ m : Nat, m ≤ n ∧ i = .int .i64 m ∧ (s.data.toList.take m).all isDg = true ∧ IsD wr d (decN 0 (s.data.toList.take m)) ∧ Below w.heap.size w wr) (fun _ i _ => n - (intOf i).toNat)
  case atStart =>
    refine ⟨0, by omega, rfl, rfl, ?_, Below.refl _ _⟩
    show DN w (.slice none 0 0) (dl 0) 0
    exact ⟨Nat.two_pow_pos _, by decide, none, 0, rfl, Nat.le_refl _, by decide, fun h => absurd h (by decide)⟩
  case round =>
    obtain ⟨m, hm, rfl, hdg, hd, hW⟩ := hrel
    obtain ⟨V, hV⟩ : ∃ V, V = decN 0 (s.data.toList.take m) := ⟨_, rfl⟩
    rw [← hV] at hd
    have DH := Lib.hid hd
    have VH := Lib.hid (And.intro hV hdg)
    clear hV hdg hd
    by_cases c0 : m < n
    · have hml : m < s.data.toList.length := by rw [HL.out]; exact c0
      have hix := idx_str hml
      obtain ⟨y, hy⟩ : ∃ y, y = s.data.toList[m].toNat := ⟨_, rfl⟩
      have hyl : y < 256 := hy ▸ UInt8.toNat_lt _
      have htk := decN_take _ m hml
      have hta := all_take _ m hml
      rw [← hy] at hix htk
      rw [← VH.out.1] at htk
      rw [VH.out.2, Bool.true_and] at hta
      have HT := Lib.hid (And.intro hy (And.intro htk hta))
      clear hy htk hta
      by_cases hd : 48 ≤ y ∧ y ≤ 57
      · have hd1 : ¬ (y : Int) < 48 := by omega
        have hd2 : ¬ 57 < (y : Int) := by omega
        obtain ⟨c, hc⟩ : ∃ c : Nat, c = y - 48 := ⟨_, rfl⟩
        have hyc : (y : Int) - 48 = (c : Int) := by omega
        have hc9 : (c : Int) ≤ 9 := by omega
        have w8c : IntKind.u8.wrap (c : Int) = (c : Int) := by rw [IntKind.wrap_u8]; omega
        have w6c : IntKind.u64.wrap (c : Int) = (c : Int) := by rw [IntKind.wrap_u64]; omega
        have hVl : V < 10 ^ 100 := by
          have h := dec_le _ VH.out.2 0
          rw [← VH.out.1, Nat.zero_add, Nat.one_mul, List.length_take] at h
          exact Nat.lt_of_lt_of_le h (Nat.pow_le_pow_right (by decide) (by omega))
        go_upto_region 7 with fail
        have MC : Hid (∀ (v1 v2 : Value) (w : World) (_ : IsD w v1 V) (_ : IsD w v2 10), Calls Tryd.prog 76 #[v1, v2] w fun e w' => ∃ v, e = .returned v ∧ IsD w' v (V * 10) ∧ Below w.heap.size w w') := Lib.hid fun v1 v2 w h1 h2 => MulI_any v1 v2 V 10 w h1 h2 (Nat.le_trans (dl_small hVl) (by decide)) (by decide)
        have SC : Hid (∀ w : World, Calls Tryd.prog 81 #[.int .u64 (c : Int)] w fun e w' => ∃ v, e = .returned v ∧ IsD w' v c ∧ Below w.heap.size w w') := Lib.hid fun w => Small_any c (by omega) w
        have AC : Hid (∀ (v1 v2 : Value) (w : World) (_ : IsD w v1 (V * 10)) (_ : IsD w v2 c), Calls Tryd.prog 53 #[v1, v2] w fun e w' => ∃ v, e = .returned v ∧ IsD w' v (V * 10 + c) ∧ Below w.heap.size w w') := Lib.hid fun v1 v2 w h1 h2 => AddI_any v1 v2 (V * 10) c w h1 h2 (Nat.le_trans ((dl_le_iff (V * 10) 21).2 (by
          have h10 : (10 : Nat) ^ 100 * 10 ≤ 2 ^ (32 * 21) := by decide +kernel
          omega)) (by decide)) (Nat.le_trans (dl2 (V := c) (by omega)) (by decide))
        have hnew : decN 0 (s.data.toList.take (m + 1)) = V * 10 + c := by rw [HT.out.2.1, hc]
        have hal : (s.data.toList.take (m + 1)).all isDg = true := by
          rw [HT.out.2.2]
          unfold isDg
          rw [← HT.out.1]
          exact decide_eq_true hd
        have GH := Lib.hid (And.intro hnew hal)
        clear hnew hal hVl hd hc
        go_region_with (first | (go_at_call 76; with_reducible refine (MC.out _ _ _ (by first | exact DH.out.alloc _ | exact (DH.out.alloc _).below (Below.refl _ _).drew | exact (DH.out.below (Below.refl _ _).drew).alloc _) (by first | exact ten_digit _ | exact (ten_digit _).below (Below.refl _ _).drew)).mono ?_; rintro e w1 ⟨v1, rfl, hv1, hb1⟩) | (go_at_call 81; with_reducible refine (SC.out _).mono ?_; rintro e w2 ⟨v2, rfl, hv2, hb2⟩) | (go_at_call 53; with_reducible refine (AC.out _ _ _ (hv1.below hb2) hv2).mono ?_; rintro e w3 ⟨v3, rfl, hv3, hb3⟩))
        all_goals (
          repeat any_goals (first | go_skip | go_guarded | go_step | go_upon | (simp only []; done))
          go_roundw
          case rel => exact ⟨m + 1, by omega, by go_num, GH.out.2, by rw [GH.out.1]; exact hv3, by (repeat first | with_reducible exact Below.refl _ _ | with_reducible assumption | with_reducible refine Below.drew ?_ | with_reducible refine below_alloc ?_ _ | ((with_reducible refine Below.setCell ?_ ?_ _); rotate_left; (focus (first | with_reducible exact Nat.le_refl _ | (simp; done) | (simp; omega) | omega))) | (with_reducible refine below_trans ?_ (by assumption)))⟩
          case measure => first | (simp [intOf]; done) | (simp [intOf]; omega))
      · have hno : s.data.toList.all isDg = false := by
          rw [← Bool.not_eq_true]
          intro h
          rw [List.all_eq_true] at h
          have h1 := h _ (List.getElem_mem hml)
          unfold isDg at h1
          rw [← HT.out.1] at h1
          exact hd (of_decide_eq_true h1)
        have hd' : (y : Int) < 48 ∨ 57 < (y : Int) := by omega
        rcases hd' with hd' | hd'
        · repeat any_goals (first | go_skip | go_guarded | go_step | go_upon | (simp only []; done))
          refine bodyPost_ret (v := .tuple #[.slice none 0 0, .bool false]) (by simp [results, Tryd.results64, go_sem]) rfl ⟨_, .inr ⟨hno, rfl⟩, hW⟩
        · repeat any_goals (first | go_skip | go_guarded | go_step | go_upon | (simp only []; done))
          refine bodyPost_ret (v := .tuple #[.slice none 0 0, .bool false]) (by simp [results, Tryd.results64, go_sem]) rfl ⟨_, .inr ⟨hno, rfl⟩, hW⟩
    · have hmn : m = n := by omega
      subst hmn
      have htk : s.data.toList.take m = s.data.toList := List.take_of_length_le (by rw [HL.out]; exact Nat.le_refl _)
      obtain ⟨h2, h3⟩ := VH.out
      rw [htk] at h2 h3
      have DF := Lib.hid (And.intro h3 (h2 ▸ DH.out))
      clear htk h2 h3 VH DH
      repeat any_goals (first | go_skip | go_guarded | go_step | go_upon | (simp only []; done))
      refine bodyPost_ret (by simp [results, Tryd.results64, go_sem]) rfl ⟨_, .inl ⟨DF.out.1, rfl, DF.out.2⟩, hW⟩
end Go.Proofs.YtbakgmkkebnhkaaDoor

namespace Go.Proofs.YtbakgmkkebnhkaaDoor
open Go.RowKit
theorem pOk_long {l : List UInt8} (h : 100 < l.length) : pOk l = false := by
  unfold pOk
  apply decide_eq_false
  rintro ⟨h0, h1, h2, h3⟩
  cases l with
  | nil => exact h0 rfl
  | cons c r =>
    rw [List.all_cons, Bool.and_eq_true] at h2
    have hc := of_decide_eq_true h2.1
    have hc0 : c ≠ 48 := fun e => h1 ⟨by omega, by rw [e]; rfl⟩
    have hc1 : 49 ≤ c.toNat := by
      have : c.toNat ≠ 48 := fun e => hc0 (UInt8.toNat_inj.1 e)
      omega
    have hge : ∀ (r : List UInt8) (v : Nat), v * 10 ^ r.length ≤ decN v r := by
      intro r
      induction r with
      | nil => intro v; show v * 10 ^ 0 ≤ v; omega
      | cons d r ih =>
        intro v
        have h := ih (v * 10 + (d.toNat - 48))
        rw [List.length_cons, Nat.pow_succ', ← Nat.mul_assoc]
        exact Nat.le_trans (Nat.mul_le_mul_right _ (by omega)) h
    have h5 := hge r (0 * 10 + (c.toNat - 48))
    have h6 : 1 * 10 ^ 100 ≤ (0 * 10 + (c.toNat - 48)) * 10 ^ r.length := by
      refine Nat.mul_le_mul (by omega) (Nat.pow_le_pow_right (by decide) ?_)
      rw [List.length_cons] at h
      omega
    have h7 : ¬ (1 * 10 ^ 100 < 2 ^ 256) := by decide +kernel
    have h8 : decN 0 (c :: r) = decN (0 * 10 + (c.toNat - 48)) r := by rfl
    rw [h8] at h3
    omega
set_option maxRecDepth 20000 in
set_option maxHeartbeats 400000 in
theorem DPar_long (s : ByteArray) (w : World) (n : Int) (hn : (s.size : Int) = n) (h1 : 100 < n) :
    Calls Tryd.prog 40 #[.string s] w fun e w' => e = .returned (.tuple #[.agg #[.int .u64 (lm (0) 0 : Nat), .int .u64 (lm (0) 1 : Nat), .int .u64 (lm (0) 2 : Nat), .int .u64 (lm (0) 3 : Nat)], .bool false]) ∧ Below w.heap.size w w' := by
  rw [lm_zero, lm_zero, lm_zero, lm_zero]
  go_enter Tryd.func40, Tryd.ntmps40
  repeat any_goals (first | go_skip | go_guarded | go_step | go_upon | (simp only []; done))
  refine bodyPost_ret (v := .tuple #[.agg #[.int .u64 (0 : Nat), .int .u64 (0 : Nat), .int .u64 (0 : Nat), .int .u64 (0 : Nat)], .bool false]) ?_ rfl ⟨rfl, by (repeat first | with_reducible exact Below.refl _ _ | with_reducible assumption | with_reducible refine Below.drew ?_ | with_reducible refine below_alloc ?_ _ | ((with_reducible refine Below.setCell ?_ ?_ _); rotate_left; (focus (first | with_reducible exact Nat.le_refl _ | (simp; done) | (simp; omega) | omega))) | (with_reducible refine below_trans ?_ (by assumption)))⟩
  simp [results, Tryd.results40, go_sem]
set_option maxRecDepth 20000 in
set_option maxHeartbeats 400000 in
theorem DPar_lead (s : ByteArray) (w : World) (n : Int) (hn : (s.size : Int) = n) (h0 : ¬ 100 < n) (h1 : 1 < n) (hx : ∀ W, (Instr.index 9 (.string s) (.int .i64 0)).run Tryd.prog W = .ok (.int .u8 48) W) :
    Calls Tryd.prog 40 #[.string s] w fun e w' => e = .returned (.tuple #[.agg #[.int .u64 (lm (0) 0 : Nat), .int .u64 (lm (0) 1 : Nat), .int .u64 (lm (0) 2 : Nat), .int .u64 (lm (0) 3 : Nat)], .bool false]) ∧ Below w.heap.size w w' := by
  rw [lm_zero, lm_zero, lm_zero, lm_zero]
  go_enter Tryd.func40, Tryd.ntmps40
  repeat any_goals (first | go_skip | go_guarded | go_step | go_upon | (simp only []; done))
  refine bodyPost_ret (v := .tuple #[.agg #[.int .u64 (0 : Nat), .int .u64 (0 : Nat), .int .u64 (0 : Nat), .int .u64 (0 : Nat)], .bool false]) ?_ rfl ⟨rfl, by (repeat first | with_reducible exact Below.refl _ _ | with_reducible assumption | with_reducible refine Below.drew ?_ | with_reducible refine below_alloc ?_ _ | ((with_reducible refine Below.setCell ?_ ?_ _); rotate_left; (focus (first | with_reducible exact Nat.le_refl _ | (simp; done) | (simp; omega) | omega))) | (with_reducible refine below_trans ?_ (by assumption)))⟩
  simp [results, Tryd.results40, go_sem]
set_option maxRecDepth 20000 in
set_option maxHeartbeats 800000 in
theorem DPar_bad (s : ByteArray) (w : World) (n : Nat) (hn : (s.size : Int) = n) (h0 : ¬ 100 < (n : Int)) (h1 : ¬ 1 < (n : Int) ∨ 1 < (n : Int) ∧ ∃ x : Nat, x ≠ 48 ∧ ∀ W, (Instr.index 9 (.string s) (.int .i64 0)).run Tryd.prog W = .ok (.int .u8 (x : Int)) W)
    (K : Hid (∀ w : World, Calls Tryd.prog 64 #[.string s] w fun e w' => ∃ v, e = .returned (.tuple #[v, .bool false]) ∧ True ∧ Below w.heap.size w w')) :
    Calls Tryd.prog 40 #[.string s] w fun e w' => e = .returned (.tuple #[.agg #[.int .u64 (lm (0) 0 : Nat), .int .u64 (lm (0) 1 : Nat), .int .u64 (lm (0) 2 : Nat), .int .u64 (lm (0) 3 : Nat)], .bool false]) ∧ Below w.heap.size w w' := by
  rw [lm_zero, lm_zero, lm_zero, lm_zero]
  go_enter Tryd.func40, Tryd.ntmps40
  have Z0 := Lib.hid (@zb_new w 24)
  rcases h1 with h1 | ⟨h1, x, hx, hx0⟩
  · repeat any_goals (first | (go_at_call 64; with_reducible refine (K.out _).mono ?_; rintro e w1 ⟨v, rfl, _, hb1⟩; obtain ⟨⟨z0, z1, z2, z3⟩, ⟨_, _, _, _⟩, _⟩ := (Z0.out.below hb1).all) | go_skip | go_guarded | go_step | go_upon | (dsimp only []))
    refine bodyPost_ret (v := .tuple #[.agg #[.int .u64 (0 : Nat), .int .u64 (0 : Nat), .int .u64 (0 : Nat), .int .u64 (0 : Nat)], .bool false]) ?_ rfl ⟨rfl, by (repeat first | with_reducible exact Below.refl _ _ | with_reducible assumption | with_reducible refine Below.drew ?_ | with_reducible refine below_alloc ?_ _ | ((with_reducible refine Below.setCell ?_ ?_ _); rotate_left; (focus (first | with_reducible exact Nat.le_refl _ | (simp; done) | (simp; omega) | omega))) | (with_reducible refine below_trans ?_ (by assumption)))⟩
    simp [results, Tryd.results40, go_sem, z0, z1, z2, z3]
  · have hx' : ((x : Int) == 48) = false := by simp; omega
    repeat any_goals (first | (go_at_call 64; with_reducible refine (K.out _).mono ?_; rintro e w1 ⟨v, rfl, _, hb1⟩; obtain ⟨⟨z0, z1, z2, z3⟩, ⟨_, _, _, _⟩, _⟩ := (Z0.out.below hb1).all) | go_skip | go_guarded | go_step | go_upon | (dsimp only []))
    refine bodyPost_ret (v := .tuple #[.agg #[.int .u64 (0 : Nat), .int .u64 (0 : Nat), .int .u64 (0 : Nat), .int .u64 (0 : Nat)], .bool false]) ?_ rfl ⟨rfl, by (repeat first | with_reducible exact Below.refl _ _ | with_reducible assumption | with_reducible refine Below.drew ?_ | with_reducible refine below_alloc ?_ _ | ((with_reducible refine Below.setCell ?_ ?_ _); rotate_left; (focus (first | with_reducible exact Nat.le_refl _ | (simp; done) | (simp; omega) | omega))) | (with_reducible refine below_trans ?_ (by assumption)))⟩
    simp [results, Tryd.results40, go_sem, z0, z1, z2, z3]
set_option maxRecDepth 20000 in
set_option maxHeartbeats 800000 in
theorem DPar_ok (s : ByteArray) (V R : Nat) (o : Bool) (w : World) (n : Nat) (hn : (s.size : Int) = n) (h0 : ¬ 100 < (n : Int)) (h1 : ¬ 1 < (n : Int) ∨ 1 < (n : Int) ∧ ∃ x : Nat, x ≠ 48 ∧ ∀ W, (Instr.index 9 (.string s) (.int .i64 0)).run Tryd.prog W = .ok (.int .u8 (x : Int)) W)
    (K : Hid (∀ w : World, Calls Tryd.prog 64 #[.string s] w fun e w' => ∃ v, e = .returned (.tuple #[v, .bool true]) ∧ IsD w' v V ∧ Below w.heap.size w w')) (N : Hid (∀ (v : Value) (w : World) (_ : IsD w v V), Calls Tryd.prog 65 #[v] w fun e w' => e = .returned (.tuple #[.agg #[.int .u64 (lm (R) 0 : Nat), .int .u64 (lm (R) 1 : Nat), .int .u64 (lm (R) 2 : Nat), .int .u64 (lm (R) 3 : Nat)], .bool o]) ∧ Below w.heap.size w w')) :
    Calls Tryd.prog 40 #[.string s] w fun e w' => e = .returned (.tuple #[.agg #[.int .u64 (lm (R) 0 : Nat), .int .u64 (lm (R) 1 : Nat), .int .u64 (lm (R) 2 : Nat), .int .u64 (lm (R) 3 : Nat)], .bool o]) ∧ Below w.heap.size w w' := by
  go_enter Tryd.func40, Tryd.ntmps40
  have Z0 := Lib.hid (@zb_new w 24)
  rcases h1 with h1 | ⟨h1, x, hx, hx0⟩
  · repeat any_goals (first | (go_at_call 64; with_reducible refine (K.out _).mono ?_; rintro e w1 ⟨v, rfl, hv, hb1⟩; have Z1 := Lib.hid (Z0.out.below hb1)) | (go_at_call 65; with_reducible refine (N.out _ _ hv).mono ?_; rintro e w2 ⟨rfl, hb2⟩; obtain ⟨⟨z0, z1, z2, z3⟩, ⟨_, _, _, _⟩, _⟩ := (Z1.out.below hb2).all) | go_skip | go_guarded | go_step | go_upon | (dsimp only []))
    refine bodyPost_ret (v := .tuple #[.agg #[.int .u64 (lm (R) 0 : Nat), .int .u64 (lm (R) 1 : Nat), .int .u64 (lm (R) 2 : Nat), .int .u64 (lm (R) 3 : Nat)], .bool o]) ?_ rfl ⟨rfl, by (repeat first | with_reducible exact Below.refl _ _ | with_reducible assumption | with_reducible refine Below.drew ?_ | with_reducible refine below_alloc ?_ _ | ((with_reducible refine Below.setCell ?_ ?_ _); rotate_left; (focus (first | with_reducible exact Nat.le_refl _ | (simp; done) | (simp; omega) | omega))) | (with_reducible refine below_trans ?_ (by assumption)))⟩
    simp [results, Tryd.results40, go_sem, z0, z1, z2, z3]
  · have hx' : ((x : Int) == 48) = false := by simp; omega
    repeat any_goals (first | (go_at_call 64; with_reducible refine (K.out _).mono ?_; rintro e w1 ⟨v, rfl, hv, hb1⟩; have Z1 := Lib.hid (Z0.out.below hb1)) | (go_at_call 65; with_reducible refine (N.out _ _ hv).mono ?_; rintro e w2 ⟨rfl, hb2⟩; obtain ⟨⟨z0, z1, z2, z3⟩, ⟨_, _, _, _⟩, _⟩ := (Z1.out.below hb2).all) | go_skip | go_guarded | go_step | go_upon | (dsimp only []))
    refine bodyPost_ret (v := .tuple #[.agg #[.int .u64 (lm (R) 0 : Nat), .int .u64 (lm (R) 1 : Nat), .int .u64 (lm (R) 2 : Nat), .int .u64 (lm (R) 3 : Nat)], .bool o]) ?_ rfl ⟨rfl, by (repeat first | with_reducible exact Below.refl _ _ | with_reducible assumption | with_reducible refine Below.drew ?_ | with_reducible refine below_alloc ?_ _ | ((with_reducible refine Below.setCell ?_ ?_ _); rotate_left; (focus (first | with_reducible exact Nat.le_refl _ | (simp; done) | (simp; omega) | omega))) | (with_reducible refine below_trans ?_ (by assumption)))⟩
    simp [results, Tryd.results40, go_sem, z0, z1, z2, z3]
/-- **Parse**, of a text that is no longer than 1,000,000 bytes. -/
theorem DParse_any (s : ByteArray) (hs : s.size ≤ 1000000) (w : World) :
    Calls Tryd.prog 40 #[.string s] w fun e w' => e = .returned (.tuple #[.agg #[.int .u64 (lm (pV s.data.toList) 0 : Nat), .int .u64 (lm (pV s.data.toList) 1 : Nat), .int .u64 (lm (pV s.data.toList) 2 : Nat), .int .u64 (lm (pV s.data.toList) 3 : Nat)], .bool (pOk s.data.toList)]) ∧ Below w.heap.size w w' := by
  have hl : s.data.toList.length = s.size := Array.length_toList
  by_cases h100 : 100 < s.size
  · have hno : pOk s.data.toList = false := pOk_long (by omega)
    rw [pV_no hno, hno]
    exact DPar_long s w s.size rfl (by omega)
  by_cases c1 : 1 < s.size ∧ s.data.toList.head? = some 48
  · have h0 : 0 < s.data.toList.length := by omega
    have hix := idx_str h0
    have hhd : s.data.toList.head? = some s.data.toList[0] := by rw [List.head?_eq_getElem?, List.getElem?_eq_getElem h0]
    have h48 : s.data.toList[0] = 48 := by
      have := c1.2
      rw [hhd] at this
      exact Option.some.inj this
    have hno : pOk s.data.toList = false := decide_eq_false fun h => h.2.1 ⟨by omega, c1.2⟩
    rw [pV_no hno, hno]
    exact DPar_lead s w s.size rfl (by omega) (by omega) (fun W => by
      have h := hix W
      rw [h48] at h
      exact h)
  have h1 : ¬ 1 < ((s.size : Nat) : Int) ∨ 1 < ((s.size : Nat) : Int) ∧ ∃ x : Nat, x ≠ 48 ∧ ∀ W, (Instr.index 9 (.string s) (.int .i64 0)).run Tryd.prog W = .ok (.int .u8 (x : Int)) W := by
    by_cases c2 : 1 < s.size
    · have h0 : 0 < s.data.toList.length := by omega
      have hhd : s.data.toList.head? = some s.data.toList[0] := by rw [List.head?_eq_getElem?, List.getElem?_eq_getElem h0]
      refine .inr ⟨by omega, s.data.toList[0].toNat, fun h => c1 ⟨c2, ?_⟩, idx_str h0⟩
      rw [hhd]
      exact congrArg some (UInt8.toNat_inj.1 h)
    · exact .inl (by omega)
  have hD := fun (x : Bool) (hx : (!s.toList.isEmpty) = x) (w : World) => DDigits_walk s s.size rfl hl (by omega) x hx w
  by_cases hal : s.data.toList.all isDg = true
  · by_cases hem : s.data.toList = []
    · have hno : pOk s.data.toList = false := decide_eq_false fun h => h.1 hem
      rw [pV_no hno, hno]
      refine DPar_bad s w s.size rfl (by omega) h1 (Lib.hid fun w => (hD false (by rw [ByteArray.toList_eq, hem]; rfl) w).mono ?_)
      rintro e w' ⟨v, ⟨_, rfl, _⟩ | ⟨h, _⟩, hb⟩
      · exact ⟨v, rfl, trivial, hb⟩
      · rw [hal] at h
        cases h
    · have hv : pOk s.data.toList = decide (decN 0 s.data.toList < 2 ^ 256) := by
        unfold pOk
        congr 1
        apply propext
        exact ⟨fun h => h.2.2.2, fun h => ⟨hem, fun h2 => c1 ⟨by omega, h2.2⟩, hal, h⟩⟩
      have hp : pV s.data.toList = if decN 0 s.data.toList < 2 ^ 256 then decN 0 s.data.toList else 0 := by
        unfold pV
        rw [hv]
        by_cases c : decN 0 s.data.toList < 2 ^ 256
        · rw [if_pos c, if_pos (decide_eq_true c)]
        · rw [if_neg c, if_neg (by rw [decide_eq_false c]; exact Bool.false_ne_true)]
      rw [hv, hp]
      refine DPar_ok s (decN 0 s.data.toList) _ _ w s.size rfl (by omega) h1 (Lib.hid fun w => (hD true (by
        rw [ByteArray.toList_eq]
        cases h : s.data.toList with
        | nil => exact absurd h hem
        | cons c r => rfl) w).mono ?_) (Lib.hid fun v w h => NatI_any v _ w h)
      rintro e w' ⟨v, ⟨_, rfl, h⟩ | ⟨h, _⟩, hb⟩
      · exact ⟨v, rfl, h, hb⟩
      · rw [hal] at h
        cases h
  · rw [Bool.not_eq_true] at hal
    have hno : pOk s.data.toList = false := decide_eq_false fun h => by
      rw [hal] at h
      exact absurd h.2.2.1 Bool.false_ne_true
    rw [pV_no hno, hno]
    refine DPar_bad s w s.size rfl (by omega) h1 (Lib.hid fun w => (hD _ rfl w).mono ?_)
    rintro e w' ⟨v, ⟨h, _⟩ | ⟨_, rfl⟩, hb⟩
    · rw [hal] at h
      cases h
    · exact ⟨v, rfl, trivial, hb⟩
end Go.Proofs.YtbakgmkkebnhkaaDoor
