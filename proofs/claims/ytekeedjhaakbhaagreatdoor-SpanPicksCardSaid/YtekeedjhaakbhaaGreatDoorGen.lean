/- Small facts on worlds that grow. -/
import Derived.Test.YtekeedjhaakbhaaGreatDoorNatB
import Derived.Deep.DeepCutAuto
namespace Go.Proofs.YtekeedjhaakbhaaGreatDoor
open Go.RowKit
theorem below_alloc {a w : World} (h : Below a.heap.size a w) (o : Obj) : Below a.heap.size a (w.alloc o) := h.alloc h.size o
theorem below_trans {a b c : World} (h : Below a.heap.size a b) (k : Below b.heap.size b c) : Below a.heap.size a c := h.trans (k.mono h.size)
theorem size_drew' (w : World) : w.drew.heap.size = w.heap.size := rfl
end Go.Proofs.YtekeedjhaakbhaaGreatDoor
