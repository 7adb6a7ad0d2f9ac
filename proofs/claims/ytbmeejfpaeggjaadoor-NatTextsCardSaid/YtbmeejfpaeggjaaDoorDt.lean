/- The contracts of the document's digits, once more, for numbers without noughts ahead. -/
import Derived.Test.YtbmeejfpaeggjaaDoorDr
import Derived.Test.YtbmeejfpaeggjaaDoorDs
namespace Go.Proofs.YtbmeejfpaeggjaaDoor
open Go.RowKit
theorem dl8 {V : Nat} (h : V < 2 ^ 256) : dl V ≤ 8 := (dl_le_iff V 8).2 h
theorem dl2 {V : Nat} (h : V < 18446744073709551616) : dl V ≤ 2 := (dl_le_iff V 2).2 h
theorem IsD.below {w1 w2 : World} {v : Value} {V : Nat} (h : IsD w1 v V) (hb : Below w1.heap.size w1 w2) : IsD w2 v V := DN.below h hb
theorem IsD.alloc {w1 : World} {v : Value} {V : Nat} (h : IsD w1 v V) (o : Obj) : IsD (w1.alloc o) v V := DN.alloc h o
theorem IsD.step {w1 w2 : World} {v : Value} {V : Nat} {o : Obj} (h : IsD w1 v V) (hb : Below (w1.alloc o).heap.size (w1.alloc o) w2) : IsD w2 v V := (h.alloc o).below hb
theorem MulI_any (v1 v2 : Value) (A B : Nat) (w : World) (h1 : IsD w v1 A) (h2 : IsD w v2 B) (l1 : dl A ≤ 1000) (l2 : dl B ≤ 1000) :
    Calls Tryd.prog 14 #[v1, v2] w fun e w' => ∃ v, e = .returned v ∧ IsD w' v (A * B) ∧ Below w.heap.size w w' :=
  Mul_any v1 v2 _ _ A B w h1 h2 (by omega) (by omega)
theorem AddI_any (v1 v2 : Value) (A B : Nat) (w : World) (h1 : IsD w v1 A) (h2 : IsD w v2 B) (l1 : dl A ≤ 1000) (l2 : dl B ≤ 1000) :
    Calls Tryd.prog 13 #[v1, v2] w fun e w' => ∃ v, e = .returned v ∧ IsD w' v (A + B) ∧ Below w.heap.size w w' :=
  DAdd_any v1 v2 _ _ A B w h1 h2 (by omega) (by omega)
theorem CmpI_any (v1 v2 : Value) (A B : Nat) (w : World) (h1 : IsD w v1 A) (h2 : IsD w v2 B) :
    Calls Tryd.prog 17 #[v1, v2] w fun e w' => e = .returned (.int .i64 (cmpV A B)) ∧ Below w.heap.size w w' :=
  DCmp_any v1 v2 _ _ A B w h1 h2
theorem NatI_any (v : Value) (V : Nat) (w : World) (h : IsD w v V) :
    Calls Tryd.prog 35 #[v] w fun e w' => e = .returned (.tuple #[.agg #[.int .u64 (lm (if V < 2 ^ 256 then V else 0) 0 : Nat), .int .u64 (lm (if V < 2 ^ 256 then V else 0) 1 : Nat), .int .u64 (lm (if V < 2 ^ 256 then V else 0) 2 : Nat), .int .u64 (lm (if V < 2 ^ 256 then V else 0) 3 : Nat)], .bool (decide (V < 2 ^ 256))]) ∧ Below w.heap.size w w' := DNat_any v _ V w h
theorem LenI_any (v : Value) (V : Nat) (w : World) (h : IsD w v V) :
    Calls Tryd.prog 33 #[v] w fun e w' => e = .returned (.int .i64 (bl V : Nat)) ∧ w = w' := DLen_any v _ V w h
theorem TrailI_any (v : Value) (V : Nat) (w : World) (h : IsD w v V) :
    Calls Tryd.prog 38 #[v] w fun e w' => e = .returned (.int .i64 (if V = 0 then 256 else tz V : Nat)) ∧ w = w' := DTrail_any v _ V w h
end Go.Proofs.YtbmeejfpaeggjaaDoor
