/- Contracts of package nat: Of, Low, Len, Trail: what each call answers, and that it only makes new memory. -/
import Derived.Test.YtekeedjhaakbhaaGreatDoorRows
import Derived.Test.YtekeedjhaakbhaaGreatDoorShelf
import Derived.Test.YtekeedjhaakbhaaGreatDoorMathShl
import Derived.WalkKit
import Derived.WalkSpells
import Derived.WalkLawsBesides
import Derived.StillTailTactics
import Derived.Deep.QuietTactic
import Derived.BigQuiet
import Derived.Handy
import Derived.Outline
import Derived.Lib.Hide
namespace Go.Proofs.YtekeedjhaakbhaaGreatDoor
open Go.RowKit

/-- What the walk needs of a world that lies above another one: old cells read as before. -/
theorem bcell {W w1 : World} (hb : Below W.heap.size W w1) : (∀ b o, b < W.heap.size → w1.cell? ⟨b, o, none⟩ = W.cell? ⟨b, o, none⟩) ∧ (∀ b o, b < W.heap.size → w1.frozen? ⟨b, o, none⟩ = W.frozen? ⟨b, o, none⟩) :=
  ⟨fun b o h => hb.cell (p := ⟨b, o, none⟩) h, fun b o h => hb.frozen (p := ⟨b, o, none⟩) h⟩

/-- A region that draws its order: n operations that change nothing, then a tail whose order is forced. -/
theorem still_tail {P : Program} {id : Nat} {Q : Exit → Act → World → Prop} {a : Act} {w : World} {l : List Oper} (n : Nat) (hm : P.follows .mixedOrders = true) (hB : Region.lexTailB .any l.toArray n = true)
    (h : wpStill P l.toArray w.drew (fun a' => wpList P l.toArray Q (l.drop n) a' w.drew) (l.take n) a) : (Code.region id l.toArray true).wp P Q a w :=
  wp_region_still_tail n hm hB h
theorem Of_any (v : Int) (w : World) :
    Calls Tryz.prog 79 #[.int .u64 v] w fun e w' => e = .returned (.agg #[.int .u64 v, .int .u64 0, .int .u64 0, .int .u64 0]) ∧ Below w.heap.size w w' := by
  go_enter Tryz.func79, Tryz.ntmps79
  go_wp2
  exact bodyPost_ret (v := .agg #[.int .u64 v, .int .u64 0, .int .u64 0, .int .u64 0]) (by simp [results, Tryz.results79, go_sem]) rfl ⟨rfl, (Below.refl _ _).alloc (Nat.le_refl _) _⟩

theorem Len64_any (x : Nat) (hx : x < 18446744073709551616) (w : World) :
    Calls Tryz.prog 89 #[.int .u64 (x : Int)] w fun e w' => e = .returned (.int .i64 (bl x : Nat)) ∧ w = w' := by
  refine (Tryz.bits_Len64 (x : Int) w (by omega) (by omega)).mono ?_
  rintro e w' ⟨rfl, rfl⟩
  rw [show ((x : Int)).toNat = x from by omega, bitLen_eq x hx]
  exact ⟨rfl, rfl⟩

theorem ne0t {a : Nat} (h : a ≠ 0) : (((a : Nat) : Int) != 0) = true := by simp; omega
theorem ne0f {a : Nat} (h : a = 0) : (((a : Nat) : Int) != 0) = false := by simp; omega
theorem bl64 {a : Nat} (h : a < 18446744073709551616) : bl a ≤ 64 := (bl_le_iff a 64).2 h

set_option maxHeartbeats 400000 in
theorem Len_any (a0 a1 a2 a3 : Nat) (h0 : a0 < 18446744073709551616) (h1 : a1 < 18446744073709551616) (h2 : a2 < 18446744073709551616) (h3 : a3 < 18446744073709551616) (w : World) :
    Calls Tryz.prog 91 #[.agg #[.int .u64 a0, .int .u64 a1, .int .u64 a2, .int .u64 a3]] w fun e w' => e = .returned (.int .i64 (len4 a0 a1 a2 a3 : Nat)) ∧ Below w.heap.size w w' := by
  have b0 := bl64 h0
  have b1 := bl64 h1
  have b2 := bl64 h2
  have b3 := bl64 h3
  by_cases c3 : a3 = 0
  · by_cases c2 : a2 = 0
    · by_cases c1 : a1 = 0
      · by_cases c0 : a0 = 0
        · have t3 := ne0f c3; have t2 := ne0f c2; have t1 := ne0f c1; have t0 := ne0f c0
          have e : len4 a0 a1 a2 a3 = 0 := by simp [len4, c3, c2, c1, c0, bl_zero]
          clear c0 c1 c2 c3
          go_enter Tryz.func91, Tryz.ntmps91
          go_wp2_with fail
          go_rounds 5
          go_ret
          exact ⟨by simp [e], (Below.refl _ _).alloc (Nat.le_refl _) _⟩
        · have t3 := ne0f c3; have t2 := ne0f c2; have t1 := ne0f c1; have t0 := ne0t c0
          have E := Lib.hid (show len4 a0 a1 a2 a3 = bl a0 by simp [len4, c3, c2, c1])
          clear c0 c1 c2 c3
          go_enter Tryz.func91, Tryz.ntmps91
          go_wp2_with fail
          refine wp_loop_rounds 5 ?_
          iterate 4 (rw [rounds_succ]; go_wp2_with ((go_at_call 89; refine (Len64_any _ (by assumption) _).mono ?_; rintro e w' ⟨rfl, rfl⟩)))
          go_ret
          exact ⟨by simp [E.out], (Below.refl _ _).alloc (Nat.le_refl _) _⟩
      · have t3 := ne0f c3; have t2 := ne0f c2; have t1 := ne0t c1
        have E := Lib.hid (show len4 a0 a1 a2 a3 = 64 + bl a1 by simp [len4, c3, c2, c1])
        clear c1 c2 c3
        go_enter Tryz.func91, Tryz.ntmps91
        go_wp2_with fail
        refine wp_loop_rounds 5 ?_
        iterate 3 (rw [rounds_succ]; go_wp2_with ((go_at_call 89; refine (Len64_any _ (by assumption) _).mono ?_; rintro e w' ⟨rfl, rfl⟩)))
        go_ret
        exact ⟨by simp [E.out], (Below.refl _ _).alloc (Nat.le_refl _) _⟩
    · have t3 := ne0f c3; have t2 := ne0t c2
      have E := Lib.hid (show len4 a0 a1 a2 a3 = 128 + bl a2 by simp [len4, c3, c2])
      clear c2 c3
      go_enter Tryz.func91, Tryz.ntmps91
      go_wp2_with fail
      refine wp_loop_rounds 5 ?_
      iterate 2 (rw [rounds_succ]; go_wp2_with ((go_at_call 89; refine (Len64_any _ (by assumption) _).mono ?_; rintro e w' ⟨rfl, rfl⟩)))
      go_ret
      exact ⟨by simp [E.out], (Below.refl _ _).alloc (Nat.le_refl _) _⟩
  · have t3 := ne0t c3
    have E := Lib.hid (show len4 a0 a1 a2 a3 = 192 + bl a3 by simp [len4, c3])
    clear c3
    go_enter Tryz.func91, Tryz.ntmps91
    go_wp2_with fail
    refine wp_loop_rounds 5 ?_
    iterate 1 (rw [rounds_succ]; go_wp2_with ((go_at_call 89; refine (Len64_any _ (by assumption) _).mono ?_; rintro e w' ⟨rfl, rfl⟩)))
    go_ret
    exact ⟨by simp [E.out], (Below.refl _ _).alloc (Nat.le_refl _) _⟩
end Go.Proofs.YtekeedjhaakbhaaGreatDoor
