/- Contract of strconv.FormatUint at base 10. -/
import Derived.Test.YtbakgmkkebnhkaaDoorGen
import Derived.Lib.AppendIntMem
namespace Go.Proofs.YtbakgmkkebnhkaaDoor
open Go.RowKit Go.Sort
/-- the table of powers of ten lies in the world -/
def Tab10 (w : World) : Prop := Lib.TabIs Tryd.prog w "internal/strconv.uint64pow10" .u64 Lib.pow10Tab
theorem Tab10.below {w w' : World} (h : Tab10 w) (hb : Below w.heap.size w w') : Tab10 w' := (Lib.tabBelow_of_tabIs h) w' hb
theorem Tab10.alloc {w : World} (h : Tab10 w) (o : Obj) : Tab10 (w.alloc o) := h.below ((Below.refl _ _).alloc (Nat.le_refl _) o)
theorem Tab10.drew {w : World} (h : Tab10 w) : Tab10 w.drew := h.below (Below.refl _ _).drew
/-- a number's decimal digits -/
def decS (n : Nat) : ByteArray := ⟨(Lib.decDigits n).toArray⟩
set_option maxRecDepth 20000 in
theorem FmtI_small (n : Nat) (hn : n < 100) (w : World) :
    Calls Tryd.prog 83 #[.int .u64 (n : Int), .int .i64 10] w fun e w' => e = .returned (.string (decS n)) ∧ Below w.heap.size w w' := by
  have hni : (n : Int) < 100 := by omega
  have MH := Lib.hid (fun w => Tryd.internal_strconv_small n hn w)
  unfold decS
  go_enter Tryd.func83, Tryd.ntmps83
  repeat any_goals (first | (go_at_call 94; refine (MH.out _).mono ?_; rintro e w' ⟨rfl, rfl⟩) | go_skip | go_guarded | go_step | go_upon | (dsimp only []))
  exact bodyPost_ret (v := .string ⟨(Lib.decDigits n).toArray⟩) (by simp [results, Tryd.results83, go_sem]) rfl ⟨rfl, Below.refl _ _⟩
set_option maxRecDepth 20000 in
set_option maxHeartbeats 1600000 in
theorem FmtI_big (n : Nat) (hn : 100 ≤ n) (hn2 : n < 18446744073709551616) (w : World) (hT : Tab10 w) :
    Calls Tryd.prog 83 #[.int .u64 (n : Int), .int .i64 10] w fun e w' => e = .returned (.string (decS n)) ∧ Below w.heap.size w w' := by
  have hu1 : 1 ≤ n := by omega
  have hni : ¬ (n : Int) < 100 := by omega
  have hnd20 : Lib.nDigits n ≤ 20 := by have := Lib.numDigits_eq n hu1 hn2; split at this <;> omega
  have hal : Tryd.prog.arrayLen 106 = 24 := by simp [Program.arrayLen, Tryd.underlying106]
  have hsl1 : ∀ W, (Instr.sliceAt 106 (.pointer (some ⟨w.heap.size, 0, none⟩)) none (some (.int .i64 (Lib.nDigits n : Int))) none).run Tryd.prog W = .ok (.slice (some ⟨w.heap.size, 0, none⟩) (Lib.nDigits n) 24) W := fun W => by
    rw [run_sliceAt_array_h W 106 ⟨w.heap.size, 0, none⟩ (by simp [Program.arrayLen, Program.elem, Tryd.underlying106]) .i64 (Lib.nDigits n : Int) (by omega) (by rw [hal]; omega), hal]
    go_simp
  have hH0 := Lib.holds_zero0 w 106 (Lib.nDigits n) (by omega)
  have hfmt := Tryd.internal_strconv_formatBase10 w.heap.size 0 24 n (Array.replicate (Lib.nDigits n) 0) (w.alloc (.cells Lib.zeros24 106)) hH0 (by rw [Array.size_replicate]; exact Lib.lt_pow_nDigits n) hn2 (by rw [Array.size_replicate]; omega)
  rw [Array.size_replicate] at hfmt
  have HH0 := Lib.hid hH0
  have HF := Lib.hid hfmt
  have MH := Lib.hid (fun w h => Tryd.internal_strconv_numDigits n (by omega) hn2 w h)
  have HT := Lib.hid hT
  clear hH0 hfmt hT hal
  unfold decS
  go_enter Tryd.func83, Tryd.ntmps83
  repeat any_goals (first | (go_at_call 95; refine (MH.out _ (HT.out.alloc _)).mono ?_; rintro e w' ⟨rfl, rfl⟩) | go_skip | go_guarded | go_step | go_upon | (dsimp only []))
  refine HF.out.mono ?_
  rintro e w' ⟨rfl, k, v', dk, rfl, hF⟩
  have hcv : (convert 81 9 (.slice (some ⟨w.heap.size, 0, none⟩) (Lib.nDigits n) 24)).run Tryd.prog ((putRow (fun (b : UInt8) => Value.int .u8 (b.toNat : Int)) (w.alloc (.cells Lib.zeros24 106)) w.heap.size 0 dk).drewN k) = .ok (.string ⟨(Lib.decDigits n).toArray⟩) ((putRow (fun (b : UInt8) => Value.int .u8 (b.toNat : Int)) (w.alloc (.cells Lib.zeros24 106)) w.heap.size 0 dk).drewN k) := by
    have h := run_convert_bytes_back (P := Tryd.prog) ((putRow (fun (b : UInt8) => Value.int .u8 (b.toNat : Int)) (w.alloc (.cells Lib.zeros24 106)) w.heap.size 0 dk).drewN k) 81 9 5 ⟨w.heap.size, 0, none⟩ 24 (Lib.decDigits n) Tryd.underlying81 Tryd.underlying5 Tryd.underlying9 (fun j hj => by
      rw [Lib.row_is_numeral hF j hj, Lib.add_plain, World.cell?_drewN]
      exact cell?_putRow (fun (b : UInt8) => Value.int .u8 (b.toNat : Int)) _ w.heap.size 0 _ dk HH0.out (by rw [hF.size, Array.size_replicate]) j (by rw [hF.size]; rw [Lib.decDigits_length] at hj; exact hj))
    rw [Lib.decDigits_length] at h
    exact h
  obtain ⟨os, eo⟩ := Lib.fin_at w (.cells Lib.zeros24 106) dk k 0
  have hb : RowKit.Below w.heap.size w ((putRow (fun (b : UInt8) => Value.int .u8 (b.toNat : Int)) (w.alloc (.cells Lib.zeros24 106)) w.heap.size 0 dk).drewN k) := by
    rw [eo]
    exact Lib.below_grow _ _ (Nat.le_refl _) _ _
  have HB := Lib.hid hb
  clear hb eo
  dsimp only []
  repeat any_goals (first | go_skip | go_guarded | go_step | go_upon | (simp only []; done))
  exact bodyPost_ret (v := .string ⟨(Lib.decDigits n).toArray⟩) (by simp [results, Tryd.results83, go_sem]) rfl ⟨rfl, HB.out⟩
theorem FmtI_any (n : Nat) (hn2 : n < 18446744073709551616) (w : World) (hT : Tab10 w) :
    Calls Tryd.prog 83 #[.int .u64 (n : Int), .int .i64 10] w fun e w' => e = .returned (.string (decS n)) ∧ Below w.heap.size w w' := by
  by_cases h : n < 100
  · exact FmtI_small n h w
  · exact FmtI_big n (by omega) hn2 w hT
/-- **strconv.FormatUint** at base 10. -/
theorem Fmt_any (n : Nat) (hn2 : n < 18446744073709551616) (w : World) (hT : Tab10 w) :
    Calls Tryd.prog 67 #[.int .u64 (n : Int), .int .i64 10] w fun e w' => e = .returned (.string (decS n)) ∧ Below w.heap.size w w' := by
  have H := Lib.hid (FmtI_any n hn2 w hT)
  clear hT
  go_enter Tryd.func67, Tryd.ntmps67
  repeat any_goals (first | (go_at_call 83; refine H.out.mono ?_; rintro e w' ⟨rfl, hb⟩) | go_skip | go_guarded | go_step | go_upon | (dsimp only []))
  exact bodyPost_ret (v := .string (decS n)) (by simp [results, Tryd.results67, go_sem]) rfl ⟨rfl, hb⟩
end Go.Proofs.YtbakgmkkebnhkaaDoor
