/- Within. -/
import Derived.Test.YtfondldmmcmloaaGreatDoorPb10
set_option maxRecDepth 1000000
set_option maxHeartbeats 8000000
namespace Go.Proofs.YtfondldmmcmloaaGreatDoor
open Go.RowKit
theorem VT.may_zero {T:VT}:T.may=0↔T.depth≤16∧T.nodes≤10000∧T.long=false∧T.right=true:=by
 unfold VT.may
 by_cases h1:16 < T.depth
 ·rw [if_pos h1]
  exact ⟨fun h=>(by cases h),fun h=>by omega⟩
 ·rw [if_neg h1]
  by_cases h2:10000 < T.nodes∨T.long=true
  ·rw [if_pos h2]
   refine ⟨fun h=>(by cases h),fun h=>?_⟩
   rcases h2 with h2|h2
   ·omega
   ·rw [h.2.2.1] at h2
    cases h2
  ·rw [if_neg h2]
   have hl:T.long=false:=by
    cases h:T.long
    ·rfl
    ·exact absurd (.inr h) h2
   by_cases h3:T.right=true
   ·rw [if_pos h3]
    exact ⟨fun _=>⟨by omega,by omega,hl,h3⟩,fun _=>rfl⟩
   ·rw [if_neg h3]
    exact ⟨fun h=>(by cases h),fun h=>absurd h.2.2.2 h3⟩
section
variable {kind:Int} {neg:Bool} {V bits:Nat} {text:ByteArray} {aL:Option Addr} {nL cL:Nat} {kids:Nat→VT} {aK:Option Addr} {nK cK:Nat} {keys:Nat→ByteArray} {i:Nat}
theorem VT.long_kid (h:(VT.mk kind neg V bits text aL nL cL kids aK nK cK keys).long=false) (hi:i < nL):(kids i).long=false:=by
 simp only [VT.long] at h
 split at h
 ·cases h
 ·split at h
  ·cases h
  ·exact anyN_no h hi
end
end Go.Proofs.YtfondldmmcmloaaGreatDoor
