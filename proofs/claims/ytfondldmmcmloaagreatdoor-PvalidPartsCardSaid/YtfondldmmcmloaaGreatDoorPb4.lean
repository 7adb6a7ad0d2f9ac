/- Shl1, Shl2, Shl3. -/
import Derived.Test.YtfondldmmcmloaaGreatDoorPb3
set_option maxRecDepth 1000000
set_option maxHeartbeats 8000000
namespace Go.Proofs.YtfondldmmcmloaaGreatDoor
open Go Go.RowKit
theorem z4zk1 {p:Prop} (h:p:=by
 rcases hlen with hz|hlen
 ·obtain ⟨z0,z1,z2,z3⟩:=zero4 hz
  clear hz
  go_wp2_with fail
  all_goals (go_meet;case rel=>exact ⟨by simp [*],zb1,(Cells4.new _ _ _ _ _ _).alloc _,Cells4.new1 _ _ _ _ _ _ _⟩)
 ·go_wp2_with (first|(go_at_call 119;refine (Len_any a0 a1 a2 a3 h0 h1 h2 h3 _).mono ?_;rintro e w1 ⟨rfl,hb1⟩))
  all_goals (go_meet;case rel=>first|exact ⟨by simp;omega,zb1,(Cells4.new _ _ _ _ _ _).alloc _,Cells4.new1 _ _ _ _ _ _ _⟩|exact ⟨by simp;omega,zb1,((Cells4.new _ _ _ _ _ _).alloc _).below hb1,(Cells4.new1 _ _ _ _ _ _ _).below hb1⟩)):p:=h
end Go.Proofs.YtfondldmmcmloaaGreatDoor
namespace Go.Proofs.YtfondldmmcmloaaGreatDoor
open Go.RowKit
theorem Shl_1z (a0 a1 a2 a3:Nat) (h0:a0 < 18446744073709551616) (h1:a1 < 18446744073709551616) (h2:a2 < 18446744073709551616) (h3:a3 < 18446744073709551616) (k:Int) (w:World)
  (k0:0≤k) (hq:k / 64=1) (hr:k % 64=0) (hlen:(((a0:Int) == 0) && ((a1:Int) == 0) && ((a2:Int) == 0) && ((a3:Int) == 0))=true∨k≤256 - (len4 a0 a1 a2 a3:Nat)) (ez0:bits BinOp.or IntKind.u64 0 (a0:Int)=(a0:Int)) (ez1:bits BinOp.or IntKind.u64 0 (a1:Int)=(a1:Int)) (ez2:bits BinOp.or IntKind.u64 0 (a2:Int)=(a2:Int)) :
  Calls Tryz.prog 116 #[.agg #[.int .u64 a0,.int .u64 a1,.int .u64 a2,.int .u64 a3],.int .i64 k] w fun e w'=>e=.returned (.tuple #[.agg #[.int .u64 0,.int .u64 a0,.int .u64 a1,.int .u64 a2],.bool true])∧Below w.heap.size w w':=by
 have r1:k % 64≤63:=by omega
 go_enter Tryz.func116,Tryz.ntmps116
 go_upto_region 1 with fail
 go_cut [23] (fun s23 wx=>s23=.bool false∧ShlIn w a0 a1 a2 a3 wx)
 case first=>
  exact z4zk1
 case rest=>
  obtain ⟨rfl,hb,⟨⟨c0,c1,c2,c3⟩,-,hl⟩,⟨⟨e0,e1,e2,e3⟩,⟨f0,f1,f2,f3⟩,hl2⟩⟩:=hcut
  clear hlen
  have d0:∀ o,(wc.alloc o).cell? ⟨w.heap.size,0,none⟩=some (.int .u64 a0):=fun o=>(World.cell?_alloc_past _ _ _ hl).trans c0
  have d1:∀ o,(wc.alloc o).cell? ⟨w.heap.size,1,none⟩=some (.int .u64 a1):=fun o=>(World.cell?_alloc_past _ _ _ hl).trans c1
  have d2:∀ o,(wc.alloc o).cell? ⟨w.heap.size,2,none⟩=some (.int .u64 a2):=fun o=>(World.cell?_alloc_past _ _ _ hl).trans c2
  have d3:∀ o,(wc.alloc o).cell? ⟨w.heap.size,3,none⟩=some (.int .u64 a3):=fun o=>(World.cell?_alloc_past _ _ _ hl).trans c3
  go_wp2_with fail
  refine wp_loop_rounds 5 ?_
  iterate 5 (rw [rounds_succ];go_wp2_with (refine still_tail 12 z0a z0a ?_;simp only [List.take_succ_cons,List.take_zero,List.drop_succ_cons,List.drop_zero];(repeat still_step);refine wpStill_nil ?_))
  refine bodyPost_ret (v:=.tuple #[.agg #[.int .u64 0,.int .u64 a0,.int .u64 a1,.int .u64 a2],.bool true]) ?_ rfl ⟨rfl,zb1⟩
  simp [results,Tryz.results116,go_sem,hl2,e0,e1,e2,e3]
theorem Shl_1p (a0 a1 a2 a3:Nat) (l0 l1 l2 g0 g1 o1 o2:Nat) (h0:a0 < 18446744073709551616) (h1:a1 < 18446744073709551616) (h2:a2 < 18446744073709551616) (h3:a3 < 18446744073709551616) (k:Int) (w:World)
  (k0:0≤k) (hq:k / 64=1) (hr:0 < k % 64) (hlen:(((a0:Int) == 0) && ((a1:Int) == 0) && ((a2:Int) == 0) && ((a3:Int) == 0))=true∨k≤256 - (len4 a0 a1 a2 a3:Nat)) (el0:IntKind.u64.wrap ((a0:Int) * 2 ^ min (k % 64).toNat 64)=(l0:Int)) (el1:IntKind.u64.wrap ((a1:Int) * 2 ^ min (k % 64).toNat 64)=(l1:Int)) (el2:IntKind.u64.wrap ((a2:Int) * 2 ^ min (k % 64).toNat 64)=(l2:Int)) (eg0:(a0:Int) / 2 ^ min (64 - k % 64).toNat 64=(g0:Int)) (eg1:(a1:Int) / 2 ^ min (64 - k % 64).toNat 64=(g1:Int)) (eo1:bits BinOp.or IntKind.u64 (g0:Int) (l1:Int)=(o1:Int)) (eo2:bits BinOp.or IntKind.u64 (g1:Int) (l2:Int)=(o2:Int)) (ez:bits BinOp.or IntKind.u64 0 (l0:Int)=(l0:Int)) (ey0:bits BinOp.or IntKind.u64 0 (g0:Int)=(g0:Int)) (ey1:bits BinOp.or IntKind.u64 0 (g1:Int)=(g1:Int)) :
  Calls Tryz.prog 116 #[.agg #[.int .u64 a0,.int .u64 a1,.int .u64 a2,.int .u64 a3],.int .i64 k] w fun e w'=>e=.returned (.tuple #[.agg #[.int .u64 0,.int .u64 l0,.int .u64 o1,.int .u64 o2],.bool true])∧Below w.heap.size w w':=by
 have r1:k % 64≤63:=by omega
 go_enter Tryz.func116,Tryz.ntmps116
 go_upto_region 1 with fail
 go_cut [23] (fun s23 wx=>s23=.bool false∧ShlIn w a0 a1 a2 a3 wx)
 case first=>
  exact z4zk1
 case rest=>
  obtain ⟨rfl,hb,⟨⟨c0,c1,c2,c3⟩,-,hl⟩,⟨⟨e0,e1,e2,e3⟩,⟨f0,f1,f2,f3⟩,hl2⟩⟩:=hcut
  clear hlen
  have d0:∀ o,(wc.alloc o).cell? ⟨w.heap.size,0,none⟩=some (.int .u64 a0):=fun o=>(World.cell?_alloc_past _ _ _ hl).trans c0
  have d1:∀ o,(wc.alloc o).cell? ⟨w.heap.size,1,none⟩=some (.int .u64 a1):=fun o=>(World.cell?_alloc_past _ _ _ hl).trans c1
  have d2:∀ o,(wc.alloc o).cell? ⟨w.heap.size,2,none⟩=some (.int .u64 a2):=fun o=>(World.cell?_alloc_past _ _ _ hl).trans c2
  have d3:∀ o,(wc.alloc o).cell? ⟨w.heap.size,3,none⟩=some (.int .u64 a3):=fun o=>(World.cell?_alloc_past _ _ _ hl).trans c3
  go_wp2_with fail
  refine wp_loop_rounds 5 ?_
  iterate 5 (rw [rounds_succ];go_wp2_with (refine still_tail 12 z0a z0a ?_;simp only [List.take_succ_cons,List.take_zero,List.drop_succ_cons,List.drop_zero];(repeat still_step);refine wpStill_nil ?_))
  refine bodyPost_ret (v:=.tuple #[.agg #[.int .u64 0,.int .u64 l0,.int .u64 o1,.int .u64 o2],.bool true]) ?_ rfl ⟨rfl,zb1⟩
  simp [results,Tryz.results116,go_sem,hl2,e0,e1,e2,e3]
theorem Shl_2z (a0 a1 a2 a3:Nat) (h0:a0 < 18446744073709551616) (h1:a1 < 18446744073709551616) (h2:a2 < 18446744073709551616) (h3:a3 < 18446744073709551616) (k:Int) (w:World)
  (k0:0≤k) (hq:k / 64=2) (hr:k % 64=0) (hlen:(((a0:Int) == 0) && ((a1:Int) == 0) && ((a2:Int) == 0) && ((a3:Int) == 0))=true∨k≤256 - (len4 a0 a1 a2 a3:Nat)) (ez0:bits BinOp.or IntKind.u64 0 (a0:Int)=(a0:Int)) (ez1:bits BinOp.or IntKind.u64 0 (a1:Int)=(a1:Int)) :
  Calls Tryz.prog 116 #[.agg #[.int .u64 a0,.int .u64 a1,.int .u64 a2,.int .u64 a3],.int .i64 k] w fun e w'=>e=.returned (.tuple #[.agg #[.int .u64 0,.int .u64 0,.int .u64 a0,.int .u64 a1],.bool true])∧Below w.heap.size w w':=by
 have r1:k % 64≤63:=by omega
 go_enter Tryz.func116,Tryz.ntmps116
 go_upto_region 1 with fail
 go_cut [23] (fun s23 wx=>s23=.bool false∧ShlIn w a0 a1 a2 a3 wx)
 case first=>
  exact z4zk1
 case rest=>
  obtain ⟨rfl,hb,⟨⟨c0,c1,c2,c3⟩,-,hl⟩,⟨⟨e0,e1,e2,e3⟩,⟨f0,f1,f2,f3⟩,hl2⟩⟩:=hcut
  clear hlen
  have d0:∀ o,(wc.alloc o).cell? ⟨w.heap.size,0,none⟩=some (.int .u64 a0):=fun o=>(World.cell?_alloc_past _ _ _ hl).trans c0
  have d1:∀ o,(wc.alloc o).cell? ⟨w.heap.size,1,none⟩=some (.int .u64 a1):=fun o=>(World.cell?_alloc_past _ _ _ hl).trans c1
  have d2:∀ o,(wc.alloc o).cell? ⟨w.heap.size,2,none⟩=some (.int .u64 a2):=fun o=>(World.cell?_alloc_past _ _ _ hl).trans c2
  have d3:∀ o,(wc.alloc o).cell? ⟨w.heap.size,3,none⟩=some (.int .u64 a3):=fun o=>(World.cell?_alloc_past _ _ _ hl).trans c3
  go_wp2_with fail
  refine wp_loop_rounds 5 ?_
  iterate 5 (rw [rounds_succ];go_wp2_with (refine still_tail 12 z0a z0a ?_;simp only [List.take_succ_cons,List.take_zero,List.drop_succ_cons,List.drop_zero];(repeat still_step);refine wpStill_nil ?_))
  refine bodyPost_ret (v:=.tuple #[.agg #[.int .u64 0,.int .u64 0,.int .u64 a0,.int .u64 a1],.bool true]) ?_ rfl ⟨rfl,zb1⟩
  simp [results,Tryz.results116,go_sem,hl2,e0,e1,e2,e3]
theorem Shl_2p (a0 a1 a2 a3:Nat) (l0 l1 g0 o1:Nat) (h0:a0 < 18446744073709551616) (h1:a1 < 18446744073709551616) (h2:a2 < 18446744073709551616) (h3:a3 < 18446744073709551616) (k:Int) (w:World)
  (k0:0≤k) (hq:k / 64=2) (hr:0 < k % 64) (hlen:(((a0:Int) == 0) && ((a1:Int) == 0) && ((a2:Int) == 0) && ((a3:Int) == 0))=true∨k≤256 - (len4 a0 a1 a2 a3:Nat)) (el0:IntKind.u64.wrap ((a0:Int) * 2 ^ min (k % 64).toNat 64)=(l0:Int)) (el1:IntKind.u64.wrap ((a1:Int) * 2 ^ min (k % 64).toNat 64)=(l1:Int)) (eg0:(a0:Int) / 2 ^ min (64 - k % 64).toNat 64=(g0:Int)) (eo1:bits BinOp.or IntKind.u64 (g0:Int) (l1:Int)=(o1:Int)) (ez:bits BinOp.or IntKind.u64 0 (l0:Int)=(l0:Int)) (ey0:bits BinOp.or IntKind.u64 0 (g0:Int)=(g0:Int)) :
  Calls Tryz.prog 116 #[.agg #[.int .u64 a0,.int .u64 a1,.int .u64 a2,.int .u64 a3],.int .i64 k] w fun e w'=>e=.returned (.tuple #[.agg #[.int .u64 0,.int .u64 0,.int .u64 l0,.int .u64 o1],.bool true])∧Below w.heap.size w w':=by
 have r1:k % 64≤63:=by omega
 go_enter Tryz.func116,Tryz.ntmps116
 go_upto_region 1 with fail
 go_cut [23] (fun s23 wx=>s23=.bool false∧ShlIn w a0 a1 a2 a3 wx)
 case first=>
  exact z4zk1
 case rest=>
  obtain ⟨rfl,hb,⟨⟨c0,c1,c2,c3⟩,-,hl⟩,⟨⟨e0,e1,e2,e3⟩,⟨f0,f1,f2,f3⟩,hl2⟩⟩:=hcut
  clear hlen
  have d0:∀ o,(wc.alloc o).cell? ⟨w.heap.size,0,none⟩=some (.int .u64 a0):=fun o=>(World.cell?_alloc_past _ _ _ hl).trans c0
  have d1:∀ o,(wc.alloc o).cell? ⟨w.heap.size,1,none⟩=some (.int .u64 a1):=fun o=>(World.cell?_alloc_past _ _ _ hl).trans c1
  have d2:∀ o,(wc.alloc o).cell? ⟨w.heap.size,2,none⟩=some (.int .u64 a2):=fun o=>(World.cell?_alloc_past _ _ _ hl).trans c2
  have d3:∀ o,(wc.alloc o).cell? ⟨w.heap.size,3,none⟩=some (.int .u64 a3):=fun o=>(World.cell?_alloc_past _ _ _ hl).trans c3
  go_wp2_with fail
  refine wp_loop_rounds 5 ?_
  iterate 5 (rw [rounds_succ];go_wp2_with (refine still_tail 12 z0a z0a ?_;simp only [List.take_succ_cons,List.take_zero,List.drop_succ_cons,List.drop_zero];(repeat still_step);refine wpStill_nil ?_))
  refine bodyPost_ret (v:=.tuple #[.agg #[.int .u64 0,.int .u64 0,.int .u64 l0,.int .u64 o1],.bool true]) ?_ rfl ⟨rfl,zb1⟩
  simp [results,Tryz.results116,go_sem,hl2,e0,e1,e2,e3]
theorem Shl_3z (a0 a1 a2 a3:Nat) (h0:a0 < 18446744073709551616) (h1:a1 < 18446744073709551616) (h2:a2 < 18446744073709551616) (h3:a3 < 18446744073709551616) (k:Int) (w:World)
  (k0:0≤k) (hq:k / 64=3) (hr:k % 64=0) (hlen:(((a0:Int) == 0) && ((a1:Int) == 0) && ((a2:Int) == 0) && ((a3:Int) == 0))=true∨k≤256 - (len4 a0 a1 a2 a3:Nat)) (ez0:bits BinOp.or IntKind.u64 0 (a0:Int)=(a0:Int)) :
  Calls Tryz.prog 116 #[.agg #[.int .u64 a0,.int .u64 a1,.int .u64 a2,.int .u64 a3],.int .i64 k] w fun e w'=>e=.returned (.tuple #[.agg #[.int .u64 0,.int .u64 0,.int .u64 0,.int .u64 a0],.bool true])∧Below w.heap.size w w':=by
 have r1:k % 64≤63:=by omega
 go_enter Tryz.func116,Tryz.ntmps116
 go_upto_region 1 with fail
 go_cut [23] (fun s23 wx=>s23=.bool false∧ShlIn w a0 a1 a2 a3 wx)
 case first=>
  exact z4zk1
 case rest=>
  obtain ⟨rfl,hb,⟨⟨c0,c1,c2,c3⟩,-,hl⟩,⟨⟨e0,e1,e2,e3⟩,⟨f0,f1,f2,f3⟩,hl2⟩⟩:=hcut
  clear hlen
  have d0:∀ o,(wc.alloc o).cell? ⟨w.heap.size,0,none⟩=some (.int .u64 a0):=fun o=>(World.cell?_alloc_past _ _ _ hl).trans c0
  have d1:∀ o,(wc.alloc o).cell? ⟨w.heap.size,1,none⟩=some (.int .u64 a1):=fun o=>(World.cell?_alloc_past _ _ _ hl).trans c1
  have d2:∀ o,(wc.alloc o).cell? ⟨w.heap.size,2,none⟩=some (.int .u64 a2):=fun o=>(World.cell?_alloc_past _ _ _ hl).trans c2
  have d3:∀ o,(wc.alloc o).cell? ⟨w.heap.size,3,none⟩=some (.int .u64 a3):=fun o=>(World.cell?_alloc_past _ _ _ hl).trans c3
  go_wp2_with fail
  refine wp_loop_rounds 5 ?_
  iterate 5 (rw [rounds_succ];go_wp2_with (refine still_tail 12 z0a z0a ?_;simp only [List.take_succ_cons,List.take_zero,List.drop_succ_cons,List.drop_zero];(repeat still_step);refine wpStill_nil ?_))
  refine bodyPost_ret (v:=.tuple #[.agg #[.int .u64 0,.int .u64 0,.int .u64 0,.int .u64 a0],.bool true]) ?_ rfl ⟨rfl,zb1⟩
  simp [results,Tryz.results116,go_sem,hl2,e0,e1,e2,e3]
theorem Shl_3p (a0 a1 a2 a3:Nat) (l0:Nat) (h0:a0 < 18446744073709551616) (h1:a1 < 18446744073709551616) (h2:a2 < 18446744073709551616) (h3:a3 < 18446744073709551616) (k:Int) (w:World)
  (k0:0≤k) (hq:k / 64=3) (hr:0 < k % 64) (hlen:(((a0:Int) == 0) && ((a1:Int) == 0) && ((a2:Int) == 0) && ((a3:Int) == 0))=true∨k≤256 - (len4 a0 a1 a2 a3:Nat)) (el0:IntKind.u64.wrap ((a0:Int) * 2 ^ min (k % 64).toNat 64)=(l0:Int)) (ez:bits BinOp.or IntKind.u64 0 (l0:Int)=(l0:Int)) :
  Calls Tryz.prog 116 #[.agg #[.int .u64 a0,.int .u64 a1,.int .u64 a2,.int .u64 a3],.int .i64 k] w fun e w'=>e=.returned (.tuple #[.agg #[.int .u64 0,.int .u64 0,.int .u64 0,.int .u64 l0],.bool true])∧Below w.heap.size w w':=by
 have r1:k % 64≤63:=by omega
 go_enter Tryz.func116,Tryz.ntmps116
 go_upto_region 1 with fail
 go_cut [23] (fun s23 wx=>s23=.bool false∧ShlIn w a0 a1 a2 a3 wx)
 case first=>
  exact z4zk1
 case rest=>
  obtain ⟨rfl,hb,⟨⟨c0,c1,c2,c3⟩,-,hl⟩,⟨⟨e0,e1,e2,e3⟩,⟨f0,f1,f2,f3⟩,hl2⟩⟩:=hcut
  clear hlen
  have d0:∀ o,(wc.alloc o).cell? ⟨w.heap.size,0,none⟩=some (.int .u64 a0):=fun o=>(World.cell?_alloc_past _ _ _ hl).trans c0
  have d1:∀ o,(wc.alloc o).cell? ⟨w.heap.size,1,none⟩=some (.int .u64 a1):=fun o=>(World.cell?_alloc_past _ _ _ hl).trans c1
  have d2:∀ o,(wc.alloc o).cell? ⟨w.heap.size,2,none⟩=some (.int .u64 a2):=fun o=>(World.cell?_alloc_past _ _ _ hl).trans c2
  have d3:∀ o,(wc.alloc o).cell? ⟨w.heap.size,3,none⟩=some (.int .u64 a3):=fun o=>(World.cell?_alloc_past _ _ _ hl).trans c3
  go_wp2_with fail
  refine wp_loop_rounds 5 ?_
  iterate 5 (rw [rounds_succ];go_wp2_with (refine still_tail 12 z0a z0a ?_;simp only [List.take_succ_cons,List.take_zero,List.drop_succ_cons,List.drop_zero];(repeat still_step);refine wpStill_nil ?_))
  refine bodyPost_ret (v:=.tuple #[.agg #[.int .u64 0,.int .u64 0,.int .u64 0,.int .u64 l0],.bool true]) ?_ rfl ⟨rfl,zb1⟩
  simp [results,Tryz.results116,go_sem,hl2,e0,e1,e2,e3]
theorem Shl_4 (a0 a1 a2 a3:Nat) (_h0:a0 < 18446744073709551616) (_h1:a1 < 18446744073709551616) (_h2:a2 < 18446744073709551616) (_h3:a3 < 18446744073709551616) (k:Int) (w:World)
  (k0:0≤k) (kb:k < 9223372036854775808) (hq:4≤k / 64) (hz:(((a0:Int) == 0) && ((a1:Int) == 0) && ((a2:Int) == 0) && ((a3:Int) == 0))=true) :
  Calls Tryz.prog 116 #[.agg #[.int .u64 a0,.int .u64 a1,.int .u64 a2,.int .u64 a3],.int .i64 k] w fun e w'=>e=.returned (.tuple #[.agg #[.int .u64 0,.int .u64 0,.int .u64 0,.int .u64 0],.bool true])∧Below w.heap.size w w':=by
 have r1:k % 64≤63:=by omega
 go_enter Tryz.func116,Tryz.ntmps116
 go_upto_region 1 with fail
 go_cut [23] (fun s23 wx=>s23=.bool false∧ShlIn w a0 a1 a2 a3 wx)
 case first=>
  obtain ⟨z0,z1,z2,z3⟩:=zero4 hz
  clear hz
  go_wp2_with fail
  all_goals (go_meet;case rel=>exact ⟨by simp [*],zb1,(Cells4.new _ _ _ _ _ _).alloc _,Cells4.new1 _ _ _ _ _ _ _⟩)
 case rest=>
  obtain ⟨rfl,hb,⟨⟨c0,c1,c2,c3⟩,-,hl⟩,⟨⟨e0,e1,e2,e3⟩,⟨f0,f1,f2,f3⟩,hl2⟩⟩:=hcut
  clear hz
  have d0:∀ o,(wc.alloc o).cell? ⟨w.heap.size,0,none⟩=some (.int .u64 a0):=fun o=>(World.cell?_alloc_past _ _ _ hl).trans c0
  have d1:∀ o,(wc.alloc o).cell? ⟨w.heap.size,1,none⟩=some (.int .u64 a1):=fun o=>(World.cell?_alloc_past _ _ _ hl).trans c1
  have d2:∀ o,(wc.alloc o).cell? ⟨w.heap.size,2,none⟩=some (.int .u64 a2):=fun o=>(World.cell?_alloc_past _ _ _ hl).trans c2
  have d3:∀ o,(wc.alloc o).cell? ⟨w.heap.size,3,none⟩=some (.int .u64 a3):=fun o=>(World.cell?_alloc_past _ _ _ hl).trans c3
  go_wp2_with fail
  refine wp_loop_rounds 5 ?_
  iterate 5 (rw [rounds_succ];go_wp2_with (refine still_tail 12 z0a z0a ?_;simp only [List.take_succ_cons,List.take_zero,List.drop_succ_cons,List.drop_zero];(repeat still_step);refine wpStill_nil ?_))
  refine bodyPost_ret (v:=.tuple #[.agg #[.int .u64 0,.int .u64 0,.int .u64 0,.int .u64 0],.bool true]) ?_ rfl ⟨rfl,zb1⟩
  simp [results,Tryz.results116,go_sem,hl2,e0,e1,e2,e3]
end Go.Proofs.YtfondldmmcmloaaGreatDoor
