/- VRise, ShlH, Shl0, Shl1, Shl2. -/
import Derived.Test.YtfondldmmcmloaaDoorPd2
set_option maxRecDepth 1000000
set_option maxHeartbeats 8000000
namespace Go.Proofs.YtfondldmmcmloaaDoor
open Go Go.RowKit
theorem z3zk1 {p:Prop} (h:p:=by
 rcases hlen with hz|hlen
 ·obtain ⟨z0,z1,z2,z3⟩:=zero4 hz
  clear hz
  go_wp2_with fail
  all_goals (go_meet;case rel=>exact ⟨by simp [*],zb1,(Cells4.new _ _ _ _ _ _).alloc _,Cells4.new1 _ _ _ _ _ _ _⟩)
 ·go_wp2_with (first|(go_at_call 85;refine (Len_any a0 a1 a2 a3 h0 h1 h2 h3 _).mono ?_;rintro e w1 ⟨rfl,hb1⟩))
  all_goals (go_meet;case rel=>first|exact ⟨by simp;omega,zb1,(Cells4.new _ _ _ _ _ _).alloc _,Cells4.new1 _ _ _ _ _ _ _⟩|exact ⟨by simp;omega,zb1,((Cells4.new _ _ _ _ _ _).alloc _).below hb1,(Cells4.new1 _ _ _ _ _ _ _).below hb1⟩)):p:=h
end Go.Proofs.YtfondldmmcmloaaDoor
namespace Go.Proofs.YtfondldmmcmloaaDoor
open Go.RowKit
abbrev U8T (w:World):Prop:=Lib.Utf8Tabs 0 1 w
theorem PValid_any (s:ByteArray) (w:World) (hs:s.size≤maxLen) (hT:U8T w) :
  Calls Tryd.prog 61 #[.string s] w fun e w'=>e=.returned (.bool (validS s))∧Below w.heap.size w w':=by
 have C:=Lib.hid (Tryd.utf8_ValidString s w (by simp only [maxLen] at hs;omega) hT)
 have e:=Lib.hid (show validS s=Lib.validD s.data.toList from rfl)
 clear hT
 generalize validS s=x at *
 generalize Lib.validD s.data.toList=y at *
 obtain rfl:x=y:=e.out
 clear e
 go_enter Tryd.func61,Tryd.ntmps61
 repeat any_goals (first|(go_at_call 73;refine (C.out).mono ?_;rintro e w1 ⟨rfl,hb1⟩)|go_skip|go_guarded|go_step|go_upon|(dsimp only []))
 exact bodyPost_ret (v:=.bool x) (by simp [results,Tryd.results61,go_sem]) rfl ⟨rfl,zb2⟩
def badKey (keys:Nat→ByteArray) (i:Nat):Bool:=!validS (keys i) || (decide (0 < i) && !Op.bytesLess (keys (i - 1)).toList (keys i).toList)
def riseB (keys:Nat→ByteArray) (n:Nat):Bool:=!anyN (badKey keys) n
theorem key_two {w wr:World} {aK:Option Addr} {nK i:Nat} {keys:Nat→ByteArray} (hK:nK=0∨∃ b off,aK=some ⟨b,off,none⟩∧b < w.heap.size∧∀ i,i < nK→w.cell? ⟨b,off+i,none⟩=some (.string (keys i))∧(keys i).size≤maxLen)
  (hi:i < nK) (hB:Below w.heap.size w wr):∃ b off:Nat,aK=some ⟨b,off,none⟩∧b < w.heap.size∧wr.cell? ⟨b,off+i,none⟩=some (.string (keys i))∧wr.cell? ⟨b,off+(i - 1),none⟩=some (.string (keys (i - 1)))∧(keys i).size≤maxLen:=by
 rcases hK with h|⟨b,off,rfl,hb,hc⟩
 ·omega
 ·exact ⟨b,off,rfl,hb,by rw [hB.cell (p:=⟨b,off+i,none⟩) hb];exact (hc i hi).1,by rw [hB.cell (p:=⟨b,off+(i - 1),none⟩) hb];exact (hc (i - 1) z0b).1,(hc i hi).2⟩
theorem rise_any (aK:Option Addr) (nK cK:Nat) (keys:Nat→ByteArray) (w:World) (hT:U8T w) (hcK:cK≤maxLen) (hlK:nK≤cK)
  (hK:nK=0∨∃ b off,aK=some ⟨b,off,none⟩∧b < w.heap.size∧∀ i,i < nK→w.cell? ⟨b,off+i,none⟩=some (.string (keys i))∧(keys i).size≤maxLen) :
  Calls Tryd.prog 58 #[.slice aK nK cK] w fun e w'=>e=.returned (.bool (riseB keys nK))∧Below w.heap.size w w':=by
 obtain ⟨R,hR⟩:∃ R,R=riseB keys nK:=⟨_,rfl⟩
 rw [← hR]
 have HR:=Lib.hid hR
 have HK:=Lib.hid hK
 have HT:=Lib.hid hT
 clear hR hK hT
 simp only [maxLen] at hcK
 go_enter Tryd.func58,Tryd.ntmps58
 repeat any_goals (first|go_skip|go_guarded|go_step|go_upon|(simp only [];done))
 go_loopw [7] (fun i wr=>∃ k:Nat,k≤nK∧i=.int .i64 k∧anyN (badKey keys) k=false∧Below w.heap.size w wr) (fun i _=>nK - (intOf i).toNat)
 case atStart=>exact ⟨0,Nat.zero_le _,rfl,rfl,Below.refl _ _⟩
 case round=>
  obtain ⟨k,hk,rfl,hA,hW⟩:=hrel
  have HA:=Lib.hid hA
  clear hA
  by_cases hkn:k < nK
  ·obtain ⟨b,off,rfl,hb,hc,hc1,hs⟩:=key_two HK.out hkn hW
   have i1:(k:Int) < (nK:Int):=by omega
   have i2:(0:Int)≤(k:Int):=by omega
   have i5:(k:Int).toNat=k:=rfl
   obtain ⟨x,hx⟩:∃ x:Bool,x=validS (keys k):=⟨_,rfl⟩
   have HC:Hid (∀ w'':World,Below w.heap.size w w''→Calls Tryd.prog 61 #[.string (keys k)] w'' fun e w'=>e=.returned (.bool x)∧Below w''.heap.size w'' w'):=Lib.hid fun w'' hb=>by
    have:=PValid_any (keys k) w'' hs (Utf8Tabs_below HT.out hb)
    rwa [← hx] at this
   obtain ⟨y,hy⟩:∃ y:Bool,y=Op.bytesLess (keys (k - 1)).toList (keys k).toList:=⟨_,rfl⟩
   have HX:=Lib.hid (show badKey keys k=(!x || (decide (0 < k) && !y)) by rw [hx,hy];rfl)
   have HY:=Lib.hid hy
   clear hx hy hs
   cases x with
   | false=>
    have e:R=false:=by rw [HR.out];unfold riseB;rw [anyN_of (p:=badKey keys) (k:=k) (by rw [HX.out];rfl) hkn];rfl
    subst e
    repeat any_goals (first|(go_at_call 61;refine (HC.out _ zb2).mono ?_;rintro e w1 ⟨rfl,hb1⟩)|go_skip|go_guarded|go_step|go_upon|(dsimp only []))
    exact bodyPost_ret (v:=.bool false) (by simp [results,Tryd.results58,go_sem]) rfl ⟨rfl,zb2⟩
   | true=>
    by_cases k0:k=0
    ·subst k0
     rw [Nat.add_zero] at hc
     repeat any_goals (first|(go_at_call 61;refine (HC.out _ zb2).mono ?_;rintro e w1 ⟨rfl,hb1⟩)|go_skip|go_guarded|go_step|go_upon|(dsimp only []))
     go_roundw
     case rel=>exact ⟨1,by omega,rfl,by simp only [anyN];rw [HX.out];rfl,zb2⟩
     case measure=>simp [intOf];omega
    ·have i6:(0:Int) < (k:Int):=by omega
     have i7:(0:Int)≤(k:Int) - 1:=by omega
     have i8:((k:Int) - 1).toNat=k - 1:=by omega
     have i9:(k:Int) - 1 < (nK:Int):=by omega
     cases y with
     | false=>
      have e:R=false:=by rw [HR.out];unfold riseB;rw [anyN_of (p:=badKey keys) (k:=k) (by rw [HX.out,decide_eq_true z0b];rfl) hkn];rfl
      subst e
      have hyy:=HY.out.symm
      repeat any_goals (first|(go_at_call 61;refine (HC.out _ zb2).mono ?_;rintro e w1 ⟨rfl,hb1⟩;have hc2:=keep_cell hb1 hc1)|go_skip|go_guarded|go_step|go_upon|(dsimp only []))
      exact bodyPost_ret (v:=.bool false) (by simp [results,Tryd.results58,go_sem]) rfl ⟨rfl,zb2⟩
     | true=>
      have hyy:=HY.out.symm
      repeat any_goals (first|(go_at_call 61;refine (HC.out _ zb2).mono ?_;rintro e w1 ⟨rfl,hb1⟩;have hc2:=keep_cell hb1 hc1)|go_skip|go_guarded|go_step|go_upon|(dsimp only []))
      go_roundw
      case rel=>exact ⟨k+1,by omega,rfl,by simp only [anyN];rw [HA.out,HX.out];simp,zb2⟩
      case measure=>simp [intOf];omega
  ·have hk':k=nK:=by omega
   subst hk'
   have i1:¬ (k:Int) < (k:Int):=by omega
   have e:R=true:=by rw [HR.out];unfold riseB;rw [HA.out];rfl
   subst e
   repeat any_goals (first|go_skip|go_guarded|go_step|go_upon|(simp only [];done))
   exact bodyPost_ret (v:=.bool true) (by simp [results,Tryd.results58,go_sem]) rfl ⟨rfl,hW⟩
def Cells4 (wx:World) (b:Nat) (a0 a1 a2 a3:Int):Prop:=
 (wx.cell? ⟨b,0,none⟩=some (.int .u64 a0)∧wx.cell? ⟨b,1,none⟩=some (.int .u64 a1)∧wx.cell? ⟨b,2,none⟩=some (.int .u64 a2)∧wx.cell? ⟨b,3,none⟩=some (.int .u64 a3)) ∧
 (wx.frozen? ⟨b,0,none⟩=false∧wx.frozen? ⟨b,1,none⟩=false∧wx.frozen? ⟨b,2,none⟩=false∧wx.frozen? ⟨b,3,none⟩=false)∧b < wx.heap.size
theorem Cells4.below {w wx:World} {b:Nat} {a0 a1 a2 a3:Int} (h:Cells4 w b a0 a1 a2 a3) (hb:Below w.heap.size w wx):Cells4 wx b a0 a1 a2 a3:=by
 obtain ⟨⟨c0,c1,c2,c3⟩,⟨f0,f1,f2,f3⟩,hl⟩:=h
 refine ⟨⟨?_,?_,?_,?_⟩,⟨?_,?_,?_,?_⟩,Nat.lt_of_lt_of_le hl hb.size⟩ <;> first|(rw [hb.cell hl];assumption)|(rw [hb.frozen hl];assumption)
theorem Cells4.alloc {w:World} {b:Nat} {a0 a1 a2 a3:Int} (h:Cells4 w b a0 a1 a2 a3) (o:Obj):Cells4 (w.alloc o) b a0 a1 a2 a3:=
 h.below ((Below.refl _ _).alloc (Nat.le_refl _) o)
theorem Cells4.new1 (w:World) (o:Obj) (a0 a1 a2 a3:Int) (t:TypeId):Cells4 ((w.alloc o).alloc (.cells #[.int .u64 a0,.int .u64 a1,.int .u64 a2,.int .u64 a3] t)) (w.heap.size+1) a0 a1 a2 a3:=by
 refine ⟨⟨?_,?_,?_,?_⟩,⟨?_,?_,?_,?_⟩,?_⟩ <;> simp [go_sem]
theorem Cells4.new (w:World) (a0 a1 a2 a3:Int) (t:TypeId):Cells4 (w.alloc (.cells #[.int .u64 a0,.int .u64 a1,.int .u64 a2,.int .u64 a3] t)) w.heap.size a0 a1 a2 a3:=by
 refine ⟨⟨?_,?_,?_,?_⟩,⟨?_,?_,?_,?_⟩,?_⟩ <;> simp [go_sem]
theorem zero4 {a0 a1 a2 a3:Nat} (h:(((a0:Int) == 0) && ((a1:Int) == 0) && ((a2:Int) == 0) && ((a3:Int) == 0))=true):((a0:Int) == 0)=true∧((a1:Int) == 0)=true∧((a2:Int) == 0)=true∧((a3:Int) == 0)=true:=by
 simp only [Bool.and_eq_true] at h
 exact ⟨h.1.1.1,h.1.1.2,h.1.2,h.2⟩
def ShlIn (w:World) (a0 a1 a2 a3:Nat) (wx:World):Prop:=Below w.heap.size w wx∧Cells4 wx w.heap.size a0 a1 a2 a3∧Cells4 wx (w.heap.size+1) 0 0 0 0
theorem Shl_0z (a0 a1 a2 a3:Nat) (h0:a0 < 18446744073709551616) (h1:a1 < 18446744073709551616) (h2:a2 < 18446744073709551616) (h3:a3 < 18446744073709551616) (k:Int) (w:World)
  (k0:0≤k) (hq:k / 64=0) (hr:k % 64=0) (hlen:(((a0:Int) == 0) && ((a1:Int) == 0) && ((a2:Int) == 0) && ((a3:Int) == 0))=true∨k≤256 - (len4 a0 a1 a2 a3:Nat)) (ez0:bits BinOp.or IntKind.u64 0 (a0:Int)=(a0:Int)) (ez1:bits BinOp.or IntKind.u64 0 (a1:Int)=(a1:Int)) (ez2:bits BinOp.or IntKind.u64 0 (a2:Int)=(a2:Int)) (ez3:bits BinOp.or IntKind.u64 0 (a3:Int)=(a3:Int)) :
  Calls Tryd.prog 82 #[.agg #[.int .u64 a0,.int .u64 a1,.int .u64 a2,.int .u64 a3],.int .i64 k] w fun e w'=>e=.returned (.tuple #[.agg #[.int .u64 a0,.int .u64 a1,.int .u64 a2,.int .u64 a3],.bool true])∧Below w.heap.size w w':=by
 have r1:k % 64≤63:=by omega
 go_enter Tryd.func82,Tryd.ntmps82
 go_upto_region 1 with fail
 go_cut [23] (fun s23 wx=>s23=.bool false∧ShlIn w a0 a1 a2 a3 wx)
 case first=>
  exact z3zk1
 case rest=>
  obtain ⟨rfl,hb,⟨⟨c0,c1,c2,c3⟩,-,hl⟩,⟨⟨e0,e1,e2,e3⟩,⟨f0,f1,f2,f3⟩,hl2⟩⟩:=hcut
  clear hlen
  have d0:∀ o,(wc.alloc o).cell? ⟨w.heap.size,0,none⟩=some (.int .u64 a0):=fun o=>(World.cell?_alloc_past _ _ _ hl).trans c0
  have d1:∀ o,(wc.alloc o).cell? ⟨w.heap.size,1,none⟩=some (.int .u64 a1):=fun o=>(World.cell?_alloc_past _ _ _ hl).trans c1
  have d2:∀ o,(wc.alloc o).cell? ⟨w.heap.size,2,none⟩=some (.int .u64 a2):=fun o=>(World.cell?_alloc_past _ _ _ hl).trans c2
  have d3:∀ o,(wc.alloc o).cell? ⟨w.heap.size,3,none⟩=some (.int .u64 a3):=fun o=>(World.cell?_alloc_past _ _ _ hl).trans c3
  go_wp2_with fail
  refine wp_loop_rounds 5 ?_
  iterate 5 (rw [rounds_succ];go_wp2_with (refine still_tail 12 z0a z0a ?_;simp only [List.take_succ_cons,List.take_zero,List.drop_succ_cons,List.drop_zero];(repeat still_step);refine wpStill_nil ?_))
  refine bodyPost_ret (v:=.tuple #[.agg #[.int .u64 a0,.int .u64 a1,.int .u64 a2,.int .u64 a3],.bool true]) ?_ rfl ⟨rfl,zb1⟩
  simp [results,Tryd.results82,go_sem,hl2,e0,e1,e2,e3]
theorem Shl_0p (a0 a1 a2 a3:Nat) (l0 l1 l2 l3 g0 g1 g2 o1 o2 o3:Nat) (h0:a0 < 18446744073709551616) (h1:a1 < 18446744073709551616) (h2:a2 < 18446744073709551616) (h3:a3 < 18446744073709551616) (k:Int) (w:World)
  (k0:0≤k) (hq:k / 64=0) (hr:0 < k % 64) (hlen:(((a0:Int) == 0) && ((a1:Int) == 0) && ((a2:Int) == 0) && ((a3:Int) == 0))=true∨k≤256 - (len4 a0 a1 a2 a3:Nat)) (el0:IntKind.u64.wrap ((a0:Int) * 2 ^ min (k % 64).toNat 64)=(l0:Int)) (el1:IntKind.u64.wrap ((a1:Int) * 2 ^ min (k % 64).toNat 64)=(l1:Int)) (el2:IntKind.u64.wrap ((a2:Int) * 2 ^ min (k % 64).toNat 64)=(l2:Int)) (el3:IntKind.u64.wrap ((a3:Int) * 2 ^ min (k % 64).toNat 64)=(l3:Int)) (eg0:(a0:Int) / 2 ^ min (64 - k % 64).toNat 64=(g0:Int)) (eg1:(a1:Int) / 2 ^ min (64 - k % 64).toNat 64=(g1:Int)) (eg2:(a2:Int) / 2 ^ min (64 - k % 64).toNat 64=(g2:Int)) (eo1:bits BinOp.or IntKind.u64 (g0:Int) (l1:Int)=(o1:Int)) (eo2:bits BinOp.or IntKind.u64 (g1:Int) (l2:Int)=(o2:Int)) (eo3:bits BinOp.or IntKind.u64 (g2:Int) (l3:Int)=(o3:Int)) (ez:bits BinOp.or IntKind.u64 0 (l0:Int)=(l0:Int)) (ey0:bits BinOp.or IntKind.u64 0 (g0:Int)=(g0:Int)) (ey1:bits BinOp.or IntKind.u64 0 (g1:Int)=(g1:Int)) (ey2:bits BinOp.or IntKind.u64 0 (g2:Int)=(g2:Int)) :
  Calls Tryd.prog 82 #[.agg #[.int .u64 a0,.int .u64 a1,.int .u64 a2,.int .u64 a3],.int .i64 k] w fun e w'=>e=.returned (.tuple #[.agg #[.int .u64 l0,.int .u64 o1,.int .u64 o2,.int .u64 o3],.bool true])∧Below w.heap.size w w':=by
 have r1:k % 64≤63:=by omega
 go_enter Tryd.func82,Tryd.ntmps82
 go_upto_region 1 with fail
 go_cut [23] (fun s23 wx=>s23=.bool false∧ShlIn w a0 a1 a2 a3 wx)
 case first=>
  exact z3zk1
 case rest=>
  obtain ⟨rfl,hb,⟨⟨c0,c1,c2,c3⟩,-,hl⟩,⟨⟨e0,e1,e2,e3⟩,⟨f0,f1,f2,f3⟩,hl2⟩⟩:=hcut
  clear hlen
  have d0:∀ o,(wc.alloc o).cell? ⟨w.heap.size,0,none⟩=some (.int .u64 a0):=fun o=>(World.cell?_alloc_past _ _ _ hl).trans c0
  have d1:∀ o,(wc.alloc o).cell? ⟨w.heap.size,1,none⟩=some (.int .u64 a1):=fun o=>(World.cell?_alloc_past _ _ _ hl).trans c1
  have d2:∀ o,(wc.alloc o).cell? ⟨w.heap.size,2,none⟩=some (.int .u64 a2):=fun o=>(World.cell?_alloc_past _ _ _ hl).trans c2
  have d3:∀ o,(wc.alloc o).cell? ⟨w.heap.size,3,none⟩=some (.int .u64 a3):=fun o=>(World.cell?_alloc_past _ _ _ hl).trans c3
  go_wp2_with fail
  refine wp_loop_rounds 5 ?_
  iterate 5 (rw [rounds_succ];go_wp2_with (refine still_tail 12 z0a z0a ?_;simp only [List.take_succ_cons,List.take_zero,List.drop_succ_cons,List.drop_zero];(repeat still_step);refine wpStill_nil ?_))
  refine bodyPost_ret (v:=.tuple #[.agg #[.int .u64 l0,.int .u64 o1,.int .u64 o2,.int .u64 o3],.bool true]) ?_ rfl ⟨rfl,zb1⟩
  simp [results,Tryd.results82,go_sem,hl2,e0,e1,e2,e3]
theorem Shl_1z (a0 a1 a2 a3:Nat) (h0:a0 < 18446744073709551616) (h1:a1 < 18446744073709551616) (h2:a2 < 18446744073709551616) (h3:a3 < 18446744073709551616) (k:Int) (w:World)
  (k0:0≤k) (hq:k / 64=1) (hr:k % 64=0) (hlen:(((a0:Int) == 0) && ((a1:Int) == 0) && ((a2:Int) == 0) && ((a3:Int) == 0))=true∨k≤256 - (len4 a0 a1 a2 a3:Nat)) (ez0:bits BinOp.or IntKind.u64 0 (a0:Int)=(a0:Int)) (ez1:bits BinOp.or IntKind.u64 0 (a1:Int)=(a1:Int)) (ez2:bits BinOp.or IntKind.u64 0 (a2:Int)=(a2:Int)) :
  Calls Tryd.prog 82 #[.agg #[.int .u64 a0,.int .u64 a1,.int .u64 a2,.int .u64 a3],.int .i64 k] w fun e w'=>e=.returned (.tuple #[.agg #[.int .u64 0,.int .u64 a0,.int .u64 a1,.int .u64 a2],.bool true])∧Below w.heap.size w w':=by
 have r1:k % 64≤63:=by omega
 go_enter Tryd.func82,Tryd.ntmps82
 go_upto_region 1 with fail
 go_cut [23] (fun s23 wx=>s23=.bool false∧ShlIn w a0 a1 a2 a3 wx)
 case first=>
  exact z3zk1
 case rest=>
  obtain ⟨rfl,hb,⟨⟨c0,c1,c2,c3⟩,-,hl⟩,⟨⟨e0,e1,e2,e3⟩,⟨f0,f1,f2,f3⟩,hl2⟩⟩:=hcut
  clear hlen
  have d0:∀ o,(wc.alloc o).cell? ⟨w.heap.size,0,none⟩=some (.int .u64 a0):=fun o=>(World.cell?_alloc_past _ _ _ hl).trans c0
  have d1:∀ o,(wc.alloc o).cell? ⟨w.heap.size,1,none⟩=some (.int .u64 a1):=fun o=>(World.cell?_alloc_past _ _ _ hl).trans c1
  have d2:∀ o,(wc.alloc o).cell? ⟨w.heap.size,2,none⟩=some (.int .u64 a2):=fun o=>(World.cell?_alloc_past _ _ _ hl).trans c2
  have d3:∀ o,(wc.alloc o).cell? ⟨w.heap.size,3,none⟩=some (.int .u64 a3):=fun o=>(World.cell?_alloc_past _ _ _ hl).trans c3
  go_wp2_with fail
  refine wp_loop_rounds 5 ?_
  iterate 5 (rw [rounds_succ];go_wp2_with (refine still_tail 12 z0a z0a ?_;simp only [List.take_succ_cons,List.take_zero,List.drop_succ_cons,List.drop_zero];(repeat still_step);refine wpStill_nil ?_))
  refine bodyPost_ret (v:=.tuple #[.agg #[.int .u64 0,.int .u64 a0,.int .u64 a1,.int .u64 a2],.bool true]) ?_ rfl ⟨rfl,zb1⟩
  simp [results,Tryd.results82,go_sem,hl2,e0,e1,e2,e3]
theorem Shl_1p (a0 a1 a2 a3:Nat) (l0 l1 l2 g0 g1 o1 o2:Nat) (h0:a0 < 18446744073709551616) (h1:a1 < 18446744073709551616) (h2:a2 < 18446744073709551616) (h3:a3 < 18446744073709551616) (k:Int) (w:World)
  (k0:0≤k) (hq:k / 64=1) (hr:0 < k % 64) (hlen:(((a0:Int) == 0) && ((a1:Int) == 0) && ((a2:Int) == 0) && ((a3:Int) == 0))=true∨k≤256 - (len4 a0 a1 a2 a3:Nat)) (el0:IntKind.u64.wrap ((a0:Int) * 2 ^ min (k % 64).toNat 64)=(l0:Int)) (el1:IntKind.u64.wrap ((a1:Int) * 2 ^ min (k % 64).toNat 64)=(l1:Int)) (el2:IntKind.u64.wrap ((a2:Int) * 2 ^ min (k % 64).toNat 64)=(l2:Int)) (eg0:(a0:Int) / 2 ^ min (64 - k % 64).toNat 64=(g0:Int)) (eg1:(a1:Int) / 2 ^ min (64 - k % 64).toNat 64=(g1:Int)) (eo1:bits BinOp.or IntKind.u64 (g0:Int) (l1:Int)=(o1:Int)) (eo2:bits BinOp.or IntKind.u64 (g1:Int) (l2:Int)=(o2:Int)) (ez:bits BinOp.or IntKind.u64 0 (l0:Int)=(l0:Int)) (ey0:bits BinOp.or IntKind.u64 0 (g0:Int)=(g0:Int)) (ey1:bits BinOp.or IntKind.u64 0 (g1:Int)=(g1:Int)) :
  Calls Tryd.prog 82 #[.agg #[.int .u64 a0,.int .u64 a1,.int .u64 a2,.int .u64 a3],.int .i64 k] w fun e w'=>e=.returned (.tuple #[.agg #[.int .u64 0,.int .u64 l0,.int .u64 o1,.int .u64 o2],.bool true])∧Below w.heap.size w w':=by
 have r1:k % 64≤63:=by omega
 go_enter Tryd.func82,Tryd.ntmps82
 go_upto_region 1 with fail
 go_cut [23] (fun s23 wx=>s23=.bool false∧ShlIn w a0 a1 a2 a3 wx)
 case first=>
  exact z3zk1
 case rest=>
  obtain ⟨rfl,hb,⟨⟨c0,c1,c2,c3⟩,-,hl⟩,⟨⟨e0,e1,e2,e3⟩,⟨f0,f1,f2,f3⟩,hl2⟩⟩:=hcut
  clear hlen
  have d0:∀ o,(wc.alloc o).cell? ⟨w.heap.size,0,none⟩=some (.int .u64 a0):=fun o=>(World.cell?_alloc_past _ _ _ hl).trans c0
  have d1:∀ o,(wc.alloc o).cell? ⟨w.heap.size,1,none⟩=some (.int .u64 a1):=fun o=>(World.cell?_alloc_past _ _ _ hl).trans c1
  have d2:∀ o,(wc.alloc o).cell? ⟨w.heap.size,2,none⟩=some (.int .u64 a2):=fun o=>(World.cell?_alloc_past _ _ _ hl).trans c2
  have d3:∀ o,(wc.alloc o).cell? ⟨w.heap.size,3,none⟩=some (.int .u64 a3):=fun o=>(World.cell?_alloc_past _ _ _ hl).trans c3
  go_wp2_with fail
  refine wp_loop_rounds 5 ?_
  iterate 5 (rw [rounds_succ];go_wp2_with (refine still_tail 12 z0a z0a ?_;simp only [List.take_succ_cons,List.take_zero,List.drop_succ_cons,List.drop_zero];(repeat still_step);refine wpStill_nil ?_))
  refine bodyPost_ret (v:=.tuple #[.agg #[.int .u64 0,.int .u64 l0,.int .u64 o1,.int .u64 o2],.bool true]) ?_ rfl ⟨rfl,zb1⟩
  simp [results,Tryd.results82,go_sem,hl2,e0,e1,e2,e3]
theorem Shl_2z (a0 a1 a2 a3:Nat) (h0:a0 < 18446744073709551616) (h1:a1 < 18446744073709551616) (h2:a2 < 18446744073709551616) (h3:a3 < 18446744073709551616) (k:Int) (w:World)
  (k0:0≤k) (hq:k / 64=2) (hr:k % 64=0) (hlen:(((a0:Int) == 0) && ((a1:Int) == 0) && ((a2:Int) == 0) && ((a3:Int) == 0))=true∨k≤256 - (len4 a0 a1 a2 a3:Nat)) (ez0:bits BinOp.or IntKind.u64 0 (a0:Int)=(a0:Int)) (ez1:bits BinOp.or IntKind.u64 0 (a1:Int)=(a1:Int)) :
  Calls Tryd.prog 82 #[.agg #[.int .u64 a0,.int .u64 a1,.int .u64 a2,.int .u64 a3],.int .i64 k] w fun e w'=>e=.returned (.tuple #[.agg #[.int .u64 0,.int .u64 0,.int .u64 a0,.int .u64 a1],.bool true])∧Below w.heap.size w w':=by
 have r1:k % 64≤63:=by omega
 go_enter Tryd.func82,Tryd.ntmps82
 go_upto_region 1 with fail
 go_cut [23] (fun s23 wx=>s23=.bool false∧ShlIn w a0 a1 a2 a3 wx)
 case first=>
  exact z3zk1
 case rest=>
  obtain ⟨rfl,hb,⟨⟨c0,c1,c2,c3⟩,-,hl⟩,⟨⟨e0,e1,e2,e3⟩,⟨f0,f1,f2,f3⟩,hl2⟩⟩:=hcut
  clear hlen
  have d0:∀ o,(wc.alloc o).cell? ⟨w.heap.size,0,none⟩=some (.int .u64 a0):=fun o=>(World.cell?_alloc_past _ _ _ hl).trans c0
  have d1:∀ o,(wc.alloc o).cell? ⟨w.heap.size,1,none⟩=some (.int .u64 a1):=fun o=>(World.cell?_alloc_past _ _ _ hl).trans c1
  have d2:∀ o,(wc.alloc o).cell? ⟨w.heap.size,2,none⟩=some (.int .u64 a2):=fun o=>(World.cell?_alloc_past _ _ _ hl).trans c2
  have d3:∀ o,(wc.alloc o).cell? ⟨w.heap.size,3,none⟩=some (.int .u64 a3):=fun o=>(World.cell?_alloc_past _ _ _ hl).trans c3
  go_wp2_with fail
  refine wp_loop_rounds 5 ?_
  iterate 5 (rw [rounds_succ];go_wp2_with (refine still_tail 12 z0a z0a ?_;simp only [List.take_succ_cons,List.take_zero,List.drop_succ_cons,List.drop_zero];(repeat still_step);refine wpStill_nil ?_))
  refine bodyPost_ret (v:=.tuple #[.agg #[.int .u64 0,.int .u64 0,.int .u64 a0,.int .u64 a1],.bool true]) ?_ rfl ⟨rfl,zb1⟩
  simp [results,Tryd.results82,go_sem,hl2,e0,e1,e2,e3]
theorem Shl_2p (a0 a1 a2 a3:Nat) (l0 l1 g0 o1:Nat) (h0:a0 < 18446744073709551616) (h1:a1 < 18446744073709551616) (h2:a2 < 18446744073709551616) (h3:a3 < 18446744073709551616) (k:Int) (w:World)
  (k0:0≤k) (hq:k / 64=2) (hr:0 < k % 64) (hlen:(((a0:Int) == 0) && ((a1:Int) == 0) && ((a2:Int) == 0) && ((a3:Int) == 0))=true∨k≤256 - (len4 a0 a1 a2 a3:Nat)) (el0:IntKind.u64.wrap ((a0:Int) * 2 ^ min (k % 64).toNat 64)=(l0:Int)) (el1:IntKind.u64.wrap ((a1:Int) * 2 ^ min (k % 64).toNat 64)=(l1:Int)) (eg0:(a0:Int) / 2 ^ min (64 - k % 64).toNat 64=(g0:Int)) (eo1:bits BinOp.or IntKind.u64 (g0:Int) (l1:Int)=(o1:Int)) (ez:bits BinOp.or IntKind.u64 0 (l0:Int)=(l0:Int)) (ey0:bits BinOp.or IntKind.u64 0 (g0:Int)=(g0:Int)) :
  Calls Tryd.prog 82 #[.agg #[.int .u64 a0,.int .u64 a1,.int .u64 a2,.int .u64 a3],.int .i64 k] w fun e w'=>e=.returned (.tuple #[.agg #[.int .u64 0,.int .u64 0,.int .u64 l0,.int .u64 o1],.bool true])∧Below w.heap.size w w':=by
 have r1:k % 64≤63:=by omega
 go_enter Tryd.func82,Tryd.ntmps82
 go_upto_region 1 with fail
 go_cut [23] (fun s23 wx=>s23=.bool false∧ShlIn w a0 a1 a2 a3 wx)
 case first=>
  exact z3zk1
 case rest=>
  obtain ⟨rfl,hb,⟨⟨c0,c1,c2,c3⟩,-,hl⟩,⟨⟨e0,e1,e2,e3⟩,⟨f0,f1,f2,f3⟩,hl2⟩⟩:=hcut
  clear hlen
  have d0:∀ o,(wc.alloc o).cell? ⟨w.heap.size,0,none⟩=some (.int .u64 a0):=fun o=>(World.cell?_alloc_past _ _ _ hl).trans c0
  have d1:∀ o,(wc.alloc o).cell? ⟨w.heap.size,1,none⟩=some (.int .u64 a1):=fun o=>(World.cell?_alloc_past _ _ _ hl).trans c1
  have d2:∀ o,(wc.alloc o).cell? ⟨w.heap.size,2,none⟩=some (.int .u64 a2):=fun o=>(World.cell?_alloc_past _ _ _ hl).trans c2
  have d3:∀ o,(wc.alloc o).cell? ⟨w.heap.size,3,none⟩=some (.int .u64 a3):=fun o=>(World.cell?_alloc_past _ _ _ hl).trans c3
  go_wp2_with fail
  refine wp_loop_rounds 5 ?_
  iterate 5 (rw [rounds_succ];go_wp2_with (refine still_tail 12 z0a z0a ?_;simp only [List.take_succ_cons,List.take_zero,List.drop_succ_cons,List.drop_zero];(repeat still_step);refine wpStill_nil ?_))
  refine bodyPost_ret (v:=.tuple #[.agg #[.int .u64 0,.int .u64 0,.int .u64 l0,.int .u64 o1],.bool true]) ?_ rfl ⟨rfl,zb1⟩
  simp [results,Tryd.results82,go_sem,hl2,e0,e1,e2,e3]
end Go.Proofs.YtfondldmmcmloaaDoor
