/- VSame, Rh6. -/
import Derived.Test.YtfondldmmcmloaaGreatDoorPb21
set_option maxRecDepth 1000000
set_option maxHeartbeats 8000000
namespace Go.Proofs.YtfondldmmcmloaaGreatDoor
open Go.RowKit
def VT.sameB:VT→VT→Bool
 | .nil=>fun _=>false
 | .mk kind neg V bits text _ nL _ kids _ nK _ keys=>fun U=>match U with
  | .nil=>false
  | .mk kindB negB VB bitsB textB _ nLB _ kidsB _ nKB _ keysB=>decide (kind=kindB) && decide (neg=negB∧V=VB) && decide (bits=bitsB) && decide (text=textB) && decide (nL=nLB) && decide (nK=nKB) && !anyN (fun i=>decide (keys i≠keysB i)) nK && !anyN (fun i => !(kids i).sameB (kidsB i)) nL
theorem IsD.below {w1 w2:World} {v:Value} {V:Nat} (h:IsD w1 v V) (hb:Below w1.heap.size w1 w2):IsD w2 v V:=DN.below h hb
theorem IsD.alloc {w1:World} {v:Value} {V:Nat} (h:IsD w1 v V) (o:Obj):IsD (w1.alloc o) v V:=DN.alloc h o
theorem IsD.step {w1 w2:World} {v:Value} {V:Nat} {o:Obj} (h:IsD w1 v V) (hb:Below (w1.alloc o).heap.size (w1.alloc o) w2):IsD w2 v V:=(h.alloc o).below hb
end Go.Proofs.YtfondldmmcmloaaGreatDoor
