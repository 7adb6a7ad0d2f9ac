/- Shl3, Shl, MathFl, FlA, MathFlB. -/
import Derived.Test.YtfondldmmcmloaaDoorPd3
set_option maxRecDepth 1000000
set_option maxHeartbeats 8000000
namespace Go.Proofs.YtfondldmmcmloaaDoor
open Go Go.RowKit
theorem z4zk1 {p:Prop} (h:p:=by
 rcases hlen with hz|hlen
 ·obtain ⟨z0,z1,z2,z3⟩:=zero4 hz
  clear hz
  go_wp2_with fail
  all_goals (go_meet;case rel=>exact ⟨by simp [*],zb1,(Cells4.new _ _ _ _ _ _).alloc _,Cells4.new1 _ _ _ _ _ _ _⟩)
 ·go_wp2_with (first|(go_at_call 85;refine (Len_any a0 a1 a2 a3 h0 h1 h2 h3 _).mono ?_;rintro e w1 ⟨rfl,hb1⟩))
  all_goals (go_meet;case rel=>first|exact ⟨by simp;omega,zb1,(Cells4.new _ _ _ _ _ _).alloc _,Cells4.new1 _ _ _ _ _ _ _⟩|exact ⟨by simp;omega,zb1,((Cells4.new _ _ _ _ _ _).alloc _).below hb1,(Cells4.new1 _ _ _ _ _ _ _).below hb1⟩)):p:=h
theorem z4zk2 {p:Prop} (h:p:=by
 go_enter Tryd.func76,Tryd.ntmps76
 go_wp2_with (first|(go_at_call 84;refine (Tz64_any M hM0 hM _ hT).mono ?_;rintro e w' ⟨rfl,rfl⟩))
 go_ret3
 exact ⟨rfl,rfl⟩):p:=h
end Go.Proofs.YtfondldmmcmloaaDoor
namespace Go.Proofs.YtfondldmmcmloaaDoor
open Go.RowKit
theorem Shl_3z (a0 a1 a2 a3:Nat) (h0:a0 < 18446744073709551616) (h1:a1 < 18446744073709551616) (h2:a2 < 18446744073709551616) (h3:a3 < 18446744073709551616) (k:Int) (w:World)
  (k0:0≤k) (hq:k / 64=3) (hr:k % 64=0) (hlen:(((a0:Int) == 0) && ((a1:Int) == 0) && ((a2:Int) == 0) && ((a3:Int) == 0))=true∨k≤256 - (len4 a0 a1 a2 a3:Nat)) (ez0:bits BinOp.or IntKind.u64 0 (a0:Int)=(a0:Int)) :
  Calls Tryd.prog 82 #[.agg #[.int .u64 a0,.int .u64 a1,.int .u64 a2,.int .u64 a3],.int .i64 k] w fun e w'=>e=.returned (.tuple #[.agg #[.int .u64 0,.int .u64 0,.int .u64 0,.int .u64 a0],.bool true])∧Below w.heap.size w w':=by
 have r1:k % 64≤63:=by omega
 go_enter Tryd.func82,Tryd.ntmps82
 go_upto_region 1 with fail
 go_cut [23] (fun s23 wx=>s23=.bool false∧ShlIn w a0 a1 a2 a3 wx)
 case first=>
  exact z4zk1
 case rest=>
  obtain ⟨rfl,hb,⟨⟨c0,c1,c2,c3⟩,-,hl⟩,⟨⟨e0,e1,e2,e3⟩,⟨f0,f1,f2,f3⟩,hl2⟩⟩:=hcut
  clear hlen
  have d0:∀ o,(wc.alloc o).cell? ⟨w.heap.size,0,none⟩=some (.int .u64 a0):=fun o=>(World.cell?_alloc_past _ _ _ hl).trans c0
  have d1:∀ o,(wc.alloc o).cell? ⟨w.heap.size,1,none⟩=some (.int .u64 a1):=fun o=>(World.cell?_alloc_past _ _ _ hl).trans c1
  have d2:∀ o,(wc.alloc o).cell? ⟨w.heap.size,2,none⟩=some (.int .u64 a2):=fun o=>(World.cell?_alloc_past _ _ _ hl).trans c2
  have d3:∀ o,(wc.alloc o).cell? ⟨w.heap.size,3,none⟩=some (.int .u64 a3):=fun o=>(World.cell?_alloc_past _ _ _ hl).trans c3
  go_wp2_with fail
  refine wp_loop_rounds 5 ?_
  iterate 5 (rw [rounds_succ];go_wp2_with (refine still_tail 12 z0a z0a ?_;simp only [List.take_succ_cons,List.take_zero,List.drop_succ_cons,List.drop_zero];(repeat still_step);refine wpStill_nil ?_))
  refine bodyPost_ret (v:=.tuple #[.agg #[.int .u64 0,.int .u64 0,.int .u64 0,.int .u64 a0],.bool true]) ?_ rfl ⟨rfl,zb1⟩
  simp [results,Tryd.results82,go_sem,hl2,e0,e1,e2,e3]
theorem Shl_3p (a0 a1 a2 a3:Nat) (l0:Nat) (h0:a0 < 18446744073709551616) (h1:a1 < 18446744073709551616) (h2:a2 < 18446744073709551616) (h3:a3 < 18446744073709551616) (k:Int) (w:World)
  (k0:0≤k) (hq:k / 64=3) (hr:0 < k % 64) (hlen:(((a0:Int) == 0) && ((a1:Int) == 0) && ((a2:Int) == 0) && ((a3:Int) == 0))=true∨k≤256 - (len4 a0 a1 a2 a3:Nat)) (el0:IntKind.u64.wrap ((a0:Int) * 2 ^ min (k % 64).toNat 64)=(l0:Int)) (ez:bits BinOp.or IntKind.u64 0 (l0:Int)=(l0:Int)) :
  Calls Tryd.prog 82 #[.agg #[.int .u64 a0,.int .u64 a1,.int .u64 a2,.int .u64 a3],.int .i64 k] w fun e w'=>e=.returned (.tuple #[.agg #[.int .u64 0,.int .u64 0,.int .u64 0,.int .u64 l0],.bool true])∧Below w.heap.size w w':=by
 have r1:k % 64≤63:=by omega
 go_enter Tryd.func82,Tryd.ntmps82
 go_upto_region 1 with fail
 go_cut [23] (fun s23 wx=>s23=.bool false∧ShlIn w a0 a1 a2 a3 wx)
 case first=>
  exact z4zk1
 case rest=>
  obtain ⟨rfl,hb,⟨⟨c0,c1,c2,c3⟩,-,hl⟩,⟨⟨e0,e1,e2,e3⟩,⟨f0,f1,f2,f3⟩,hl2⟩⟩:=hcut
  clear hlen
  have d0:∀ o,(wc.alloc o).cell? ⟨w.heap.size,0,none⟩=some (.int .u64 a0):=fun o=>(World.cell?_alloc_past _ _ _ hl).trans c0
  have d1:∀ o,(wc.alloc o).cell? ⟨w.heap.size,1,none⟩=some (.int .u64 a1):=fun o=>(World.cell?_alloc_past _ _ _ hl).trans c1
  have d2:∀ o,(wc.alloc o).cell? ⟨w.heap.size,2,none⟩=some (.int .u64 a2):=fun o=>(World.cell?_alloc_past _ _ _ hl).trans c2
  have d3:∀ o,(wc.alloc o).cell? ⟨w.heap.size,3,none⟩=some (.int .u64 a3):=fun o=>(World.cell?_alloc_past _ _ _ hl).trans c3
  go_wp2_with fail
  refine wp_loop_rounds 5 ?_
  iterate 5 (rw [rounds_succ];go_wp2_with (refine still_tail 12 z0a z0a ?_;simp only [List.take_succ_cons,List.take_zero,List.drop_succ_cons,List.drop_zero];(repeat still_step);refine wpStill_nil ?_))
  refine bodyPost_ret (v:=.tuple #[.agg #[.int .u64 0,.int .u64 0,.int .u64 0,.int .u64 l0],.bool true]) ?_ rfl ⟨rfl,zb1⟩
  simp [results,Tryd.results82,go_sem,hl2,e0,e1,e2,e3]
theorem Shl_4 (a0 a1 a2 a3:Nat) (_h0:a0 < 18446744073709551616) (_h1:a1 < 18446744073709551616) (_h2:a2 < 18446744073709551616) (_h3:a3 < 18446744073709551616) (k:Int) (w:World)
  (k0:0≤k) (kb:k < 9223372036854775808) (hq:4≤k / 64) (hz:(((a0:Int) == 0) && ((a1:Int) == 0) && ((a2:Int) == 0) && ((a3:Int) == 0))=true) :
  Calls Tryd.prog 82 #[.agg #[.int .u64 a0,.int .u64 a1,.int .u64 a2,.int .u64 a3],.int .i64 k] w fun e w'=>e=.returned (.tuple #[.agg #[.int .u64 0,.int .u64 0,.int .u64 0,.int .u64 0],.bool true])∧Below w.heap.size w w':=by
 have r1:k % 64≤63:=by omega
 go_enter Tryd.func82,Tryd.ntmps82
 go_upto_region 1 with fail
 go_cut [23] (fun s23 wx=>s23=.bool false∧ShlIn w a0 a1 a2 a3 wx)
 case first=>
  obtain ⟨z0,z1,z2,z3⟩:=zero4 hz
  clear hz
  go_wp2_with fail
  all_goals (go_meet;case rel=>exact ⟨by simp [*],zb1,(Cells4.new _ _ _ _ _ _).alloc _,Cells4.new1 _ _ _ _ _ _ _⟩)
 case rest=>
  obtain ⟨rfl,hb,⟨⟨c0,c1,c2,c3⟩,-,hl⟩,⟨⟨e0,e1,e2,e3⟩,⟨f0,f1,f2,f3⟩,hl2⟩⟩:=hcut
  clear hz
  have d0:∀ o,(wc.alloc o).cell? ⟨w.heap.size,0,none⟩=some (.int .u64 a0):=fun o=>(World.cell?_alloc_past _ _ _ hl).trans c0
  have d1:∀ o,(wc.alloc o).cell? ⟨w.heap.size,1,none⟩=some (.int .u64 a1):=fun o=>(World.cell?_alloc_past _ _ _ hl).trans c1
  have d2:∀ o,(wc.alloc o).cell? ⟨w.heap.size,2,none⟩=some (.int .u64 a2):=fun o=>(World.cell?_alloc_past _ _ _ hl).trans c2
  have d3:∀ o,(wc.alloc o).cell? ⟨w.heap.size,3,none⟩=some (.int .u64 a3):=fun o=>(World.cell?_alloc_past _ _ _ hl).trans c3
  go_wp2_with fail
  refine wp_loop_rounds 5 ?_
  iterate 5 (rw [rounds_succ];go_wp2_with (refine still_tail 12 z0a z0a ?_;simp only [List.take_succ_cons,List.take_zero,List.drop_succ_cons,List.drop_zero];(repeat still_step);refine wpStill_nil ?_))
  refine bodyPost_ret (v:=.tuple #[.agg #[.int .u64 0,.int .u64 0,.int .u64 0,.int .u64 0],.bool true]) ?_ rfl ⟨rfl,zb1⟩
  simp [results,Tryd.results82,go_sem,hl2,e0,e1,e2,e3]
theorem shi64 {a r:Nat} (hr:r≤63) (ha:a < 18446744073709551616):shi a r < 18446744073709551616:=by
 have h1:shi a r < 2 ^ r:=shi_lt z0b z0b
 have h2:2 ^ r≤2 ^ 64:=Nat.pow_le_pow_right z0g z0b
 omega
theorem slo64 {a r:Nat}:slo a r < 18446744073709551616:=by have:=slo_lt a r;omega
theorem shl_lm (n k j:Nat):lm (n * 2 ^ k) j=if j < k / 64 then 0 else lm (n * 2 ^ (k % 64)) (j - k / 64):=by
 have e:n * 2 ^ k=n * 2 ^ (k % 64) * 2 ^ (64 * (k / 64)):=by
  rw [Nat.mul_assoc,← Nat.pow_add]
  congr 2
  omega
 rw [e]
 split
 ·exact lm_shift_low _ _ _ (by assumption)
 ·have e2:=lm_shift (n * 2 ^ (k % 64)) (k / 64) (j - k / 64)
  rw [show j - k / 64+k / 64=j from by omega] at e2
  exact e2
theorem ztest {a0 a1 a2 a3:Nat} (h:of4 a0 a1 a2 a3=0):(((a0:Int) == 0) && ((a1:Int) == 0) && ((a2:Int) == 0) && ((a3:Int) == 0))=true:=by
 unfold of4 at h
 simp
 omega
/-- Shl that fits. -/
theorem Shl_ok (a0 a1 a2 a3:Nat) (h0:a0 < 18446744073709551616) (h1:a1 < 18446744073709551616) (h2:a2 < 18446744073709551616) (h3:a3 < 18446744073709551616) (k:Nat) (hk:k < 9223372036854775808) (w:World) (hok:of4 a0 a1 a2 a3=0∨(k:Int)≤256 - (bl (of4 a0 a1 a2 a3):Int)) :
  Calls Tryd.prog 82 #[.agg #[.int .u64 a0,.int .u64 a1,.int .u64 a2,.int .u64 a3],.int .i64 k] w fun e w'=>e=.returned (.tuple #[.agg #[.int .u64 (lm (of4 a0 a1 a2 a3 * 2 ^ k) 0:Nat),.int .u64 (lm (of4 a0 a1 a2 a3 * 2 ^ k) 1:Nat),.int .u64 (lm (of4 a0 a1 a2 a3 * 2 ^ k) 2:Nat),.int .u64 (lm (of4 a0 a1 a2 a3 * 2 ^ k) 3:Nat)],.bool true])∧Below w.heap.size w w':=by
 have hz:(((a0:Int) == 0) && ((a1:Int) == 0) && ((a2:Int) == 0) && ((a3:Int) == 0))=true∨(k:Int)≤256 - (len4 a0 a1 a2 a3:Nat):=by
  rcases hok with h|h
  ·exact .inl (ztest h)
  ·rw [len4_eq h0 h1 h2 h3];exact .inr h
 have T0:=shl_lm (of4 a0 a1 a2 a3) k 0
 have T1:=shl_lm (of4 a0 a1 a2 a3) k 1
 have T2:=shl_lm (of4 a0 a1 a2 a3) k 2
 have T3:=shl_lm (of4 a0 a1 a2 a3) k 3
 obtain ⟨s0,s1,s2,s3⟩:=shl_limbs (a:=a0) (b:=a1) (c:=a2) (d:=a3) z0b z0b z0b z0b (k % 64) z0b
 by_cases hq0:k / 64=0
 ·by_cases hr:k % 64=0
  ·refine (Shl_0z a0 a1 a2 a3 h0 h1 h2 h3 k w z0b z0b z0b hz (or0 h0) (or0 h1) (or0 h2) (or0 h3)).mono ?_
   rintro e w' ⟨rfl,hb⟩
   rw [hr,Nat.pow_zero,Nat.mul_one] at s0 s1 s2 s3
   refine ⟨?_,hb⟩
   rw [T0,T1,T2,T3]
   simp [hq0,s0,s1,s2,s3,hr,slo_zero (show a0 < 2 ^ 64 by omega),slo_zero (show a1 < 2 ^ 64 by omega),slo_zero (show a2 < 2 ^ 64 by omega),slo_zero (show a3 < 2 ^ 64 by omega),shi_zero (show a0 < 2 ^ 64 by omega),shi_zero (show a1 < 2 ^ 64 by omega),shi_zero (show a2 < 2 ^ 64 by omega)]
  ·refine (Shl_0p a0 a1 a2 a3 (slo a0 (k % 64)) (slo a1 (k % 64)) (slo a2 (k % 64)) (slo a3 (k % 64)) (shi a0 (k % 64)) (shi a1 (k % 64)) (shi a2 (k % 64)) (shi a0 (k % 64)+slo a1 (k % 64)) (shi a1 (k % 64)+slo a2 (k % 64)) (shi a2 (k % 64)+slo a3 (k % 64)) h0 h1 h2 h3 k w z0b z0b z0b hz (wlo z0b) (wlo z0b) (wlo z0b) (wlo z0b) (whi z0b) (whi z0b) (whi z0b) (wor z0b z0b) (wor z0b z0b) (wor z0b z0b) (or0 slo64) (or0 (shi64 z0b h0)) (or0 (shi64 z0b h1)) (or0 (shi64 z0b h2))).mono ?_
   rintro e w' ⟨rfl,hb⟩
   refine ⟨?_,hb⟩
   rw [T0,T1,T2,T3]
   simp [hq0,s0,s1,s2,s3]
 by_cases hq1:k / 64=1
 ·by_cases hr:k % 64=0
  ·refine (Shl_1z a0 a1 a2 a3 h0 h1 h2 h3 k w z0b z0b z0b hz (or0 h0) (or0 h1) (or0 h2)).mono ?_
   rintro e w' ⟨rfl,hb⟩
   rw [hr,Nat.pow_zero,Nat.mul_one] at s0 s1 s2 s3
   refine ⟨?_,hb⟩
   rw [T0,T1,T2,T3]
   simp [hq1,s0,s1,s2,hr,slo_zero (show a0 < 2 ^ 64 by omega),slo_zero (show a1 < 2 ^ 64 by omega),slo_zero (show a2 < 2 ^ 64 by omega),shi_zero (show a0 < 2 ^ 64 by omega),shi_zero (show a1 < 2 ^ 64 by omega)]
  ·refine (Shl_1p a0 a1 a2 a3 (slo a0 (k % 64)) (slo a1 (k % 64)) (slo a2 (k % 64)) (shi a0 (k % 64)) (shi a1 (k % 64)) (shi a0 (k % 64)+slo a1 (k % 64)) (shi a1 (k % 64)+slo a2 (k % 64)) h0 h1 h2 h3 k w z0b z0b z0b hz (wlo z0b) (wlo z0b) (wlo z0b) (whi z0b) (whi z0b) (wor z0b z0b) (wor z0b z0b) (or0 slo64) (or0 (shi64 z0b h0)) (or0 (shi64 z0b h1))).mono ?_
   rintro e w' ⟨rfl,hb⟩
   refine ⟨?_,hb⟩
   rw [T0,T1,T2,T3]
   simp [hq1,s0,s1,s2]
 by_cases hq2:k / 64=2
 ·by_cases hr:k % 64=0
  ·refine (Shl_2z a0 a1 a2 a3 h0 h1 h2 h3 k w z0b z0b z0b hz (or0 h0) (or0 h1)).mono ?_
   rintro e w' ⟨rfl,hb⟩
   rw [hr,Nat.pow_zero,Nat.mul_one] at s0 s1 s2 s3
   refine ⟨?_,hb⟩
   rw [T0,T1,T2,T3]
   simp [hq2,s0,s1,hr,slo_zero (show a0 < 2 ^ 64 by omega),slo_zero (show a1 < 2 ^ 64 by omega),shi_zero (show a0 < 2 ^ 64 by omega)]
  ·refine (Shl_2p a0 a1 a2 a3 (slo a0 (k % 64)) (slo a1 (k % 64)) (shi a0 (k % 64)) (shi a0 (k % 64)+slo a1 (k % 64)) h0 h1 h2 h3 k w z0b z0b z0b hz (wlo z0b) (wlo z0b) (whi z0b) (wor z0b z0b) (or0 slo64) (or0 (shi64 z0b h0))).mono ?_
   rintro e w' ⟨rfl,hb⟩
   refine ⟨?_,hb⟩
   rw [T0,T1,T2,T3]
   simp [hq2,s0,s1]
 by_cases hq3:k / 64=3
 ·by_cases hr:k % 64=0
  ·refine (Shl_3z a0 a1 a2 a3 h0 h1 h2 h3 k w z0b z0b z0b hz (or0 h0)).mono ?_
   rintro e w' ⟨rfl,hb⟩
   rw [hr,Nat.pow_zero,Nat.mul_one] at s0 s1 s2 s3
   refine ⟨?_,hb⟩
   rw [T0,T1,T2,T3]
   simp [hq3,s0,hr,slo_zero (show a0 < 2 ^ 64 by omega)]
  ·refine (Shl_3p a0 a1 a2 a3 (slo a0 (k % 64)) h0 h1 h2 h3 k w z0b z0b z0b hz (wlo z0b) (or0 slo64)).mono ?_
   rintro e w' ⟨rfl,hb⟩
   refine ⟨?_,hb⟩
   rw [T0,T1,T2,T3]
   simp [hq3,s0]
 ·have hzero:of4 a0 a1 a2 a3=0:=by
   rcases hok with h|h
   ·exact h
   ·by_cases h0':of4 a0 a1 a2 a3=0
    ·exact h0'
    ·have:=bl_pos (n:=of4 a0 a1 a2 a3) z0b
     omega
  refine (Shl_4 a0 a1 a2 a3 h0 h1 h2 h3 k w z0b z0b z0b (ztest hzero)).mono ?_
  rintro e w' ⟨rfl,hb⟩
  refine ⟨?_,hb⟩
  simp [hzero,lm_zero]
/-- Shl that does not fit. -/
theorem Shl_no (a0 a1 a2 a3:Nat) (h0:a0 < 18446744073709551616) (h1:a1 < 18446744073709551616) (h2:a2 < 18446744073709551616) (h3:a3 < 18446744073709551616) (k:Int) (w:World) (_hk0 : -9223372036854775808≤k) (hok:shlOk (of4 a0 a1 a2 a3) k=false) :
  Calls Tryd.prog 82 #[.agg #[.int .u64 a0,.int .u64 a1,.int .u64 a2,.int .u64 a3],.int .i64 k] w fun e w'=>e=.returned (.tuple #[.agg #[.int .u64 0,.int .u64 0,.int .u64 0,.int .u64 0],.bool false])∧Below w.heap.size w w':=by
 unfold shlOk at hok
 rw [decide_eq_false_iff_not] at hok
 by_cases hn:k < 0
 ·clear hok
  go_enter Tryd.func82,Tryd.ntmps82
  go_wp2_with fail
  refine bodyPost_ret (v:=.tuple #[.agg #[.int .u64 0,.int .u64 0,.int .u64 0,.int .u64 0],.bool false]) ?_ rfl ⟨rfl,zb1⟩
  simp [results,Tryd.results82,go_sem]
 ·have hnz:¬ of4 a0 a1 a2 a3=0:=fun h=>hok ⟨by omega,.inl h⟩
  have hlen:256 - (len4 a0 a1 a2 a3:Nat) < k:=by
   rw [len4_eq h0 h1 h2 h3]
   exact Int.not_le.1 fun h=>hok ⟨by omega,.inr h⟩
  have hl4:len4 a0 a1 a2 a3≤256:=by
   rw [len4_eq h0 h1 h2 h3]
   exact (bl_le_iff _ 256).2 (of4_lt z0b z0b z0b z0b)
  have hnz2:¬ (a0=0∧a1=0∧a2=0∧a3=0):=fun h=>hnz (by unfold of4;omega)
  clear hok hnz
  go_enter Tryd.func82,Tryd.ntmps82
  go_upto_region 1 with fail
  go_cut [23] (fun s23 wx=>s23=.bool true∧ShlIn w a0 a1 a2 a3 wx)
  case first=>
   go_wp2_with (first|(go_at_call 85;refine (Len_any a0 a1 a2 a3 h0 h1 h2 h3 _).mono ?_;rintro e w1 ⟨rfl,hb1⟩))
   all_goals (go_meet;case rel=>first|exact ⟨by simp;omega,zb1,((Cells4.new _ _ _ _ _ _).alloc _).below hb1,(Cells4.new1 _ _ _ _ _ _ _).below hb1⟩|(exfalso;simp_all;done)|(exfalso;simp_all;omega))
  case rest=>
   obtain ⟨rfl,hb,-,⟨⟨e0,e1,e2,e3⟩,⟨f0,f1,f2,f3⟩,hl2⟩⟩:=hcut
   clear hlen hnz2
   go_wp2_with fail
   refine bodyPost_ret (v:=.tuple #[.agg #[.int .u64 0,.int .u64 0,.int .u64 0,.int .u64 0],.bool false]) ?_ rfl ⟨rfl,zb1⟩
   simp [results,Tryd.results82,go_sem,e0,e1,e2,e3]
theorem Shl_any (a0 a1 a2 a3:Nat) (h0:a0 < 18446744073709551616) (h1:a1 < 18446744073709551616) (h2:a2 < 18446744073709551616) (h3:a3 < 18446744073709551616) (k:Int) (w:World) (hk0 : -9223372036854775808≤k) (hk1:k < 9223372036854775808) :
  Calls Tryd.prog 82 #[.agg #[.int .u64 a0,.int .u64 a1,.int .u64 a2,.int .u64 a3],.int .i64 k] w fun e w'=>e=.returned (.tuple #[.agg #[.int .u64 (lm (shlV (of4 a0 a1 a2 a3) k) 0:Nat),.int .u64 (lm (shlV (of4 a0 a1 a2 a3) k) 1:Nat),.int .u64 (lm (shlV (of4 a0 a1 a2 a3) k) 2:Nat),.int .u64 (lm (shlV (of4 a0 a1 a2 a3) k) 3:Nat)],.bool (shlOk (of4 a0 a1 a2 a3) k)])∧Below w.heap.size w w':=by
 cases h:shlOk (of4 a0 a1 a2 a3) k with
 | false=>
  refine (Shl_no a0 a1 a2 a3 h0 h1 h2 h3 k w hk0 h).mono ?_
  rintro e w' ⟨rfl,hb⟩
  exact ⟨by simp [shlV,h,lm_zero],hb⟩
 | true=>
  have hh:=h
  unfold shlOk at hh
  rw [decide_eq_true_iff] at hh
  obtain ⟨j,rfl⟩:∃ j:Nat,k=j:=⟨k.toNat,by omega⟩
  refine (Shl_ok a0 a1 a2 a3 h0 h1 h2 h3 j z0b w hh.2).mono ?_
  rintro e w' ⟨rfl,hb⟩
  exact ⟨by simp [shlV,h],hb⟩
def fe (b:Nat):Nat:=b / 4503599627370496 % 2048
def fm (b:Nat):Nat:=b % 4503599627370496
def mant (b:Nat):Nat:=if fe b=0 then fm b else fm b+4503599627370496
def fin (b:Nat):Bool:=fe b != 2047
def pm (b:Nat):Nat:=if fe b=2047 then 0 else mant b / 2 ^ tz (mant b)
def pk (b:Nat):Int:=if fe b=2047∨mant b=0 then 0 else (if fe b=0 then 1 else (fe b:Int)) - 1075+(tz (mant b):Int)
theorem fe_le (b:Nat):fe b≤2047:=by unfold fe;omega
theorem fm_lt (b:Nat):fm b < 4503599627370496:=by unfold fm;omega
theorem mant_lt (b:Nat):mant b < 9007199254740992:=by
 have:=fm_lt b
 unfold mant
 split <;> omega
theorem tz_mant (b:Nat):tz (mant b)≤52:=by
 by_cases h0:mant b=0
 ·rw [h0,tz_zero];omega
 ·have h1:=tz_lt_bl (n:=mant b) z0b
  have h2:bl (mant b)≤53:=(bl_le_iff _ 53).2 (mant_lt b)
  omega
theorem pm_lt (b:Nat):pm b < 9007199254740992:=by
 unfold pm
 split
 ·omega
 ·exact Nat.lt_of_le_of_lt (Nat.div_le_self _ _) (mant_lt b)
theorem pk_le (b:Nat):pk b≤1023 ∧ -1074≤pk b:=by
 have h1:=tz_mant b
 have h2:=fe_le b
 unfold pk
 split
 ·omega
 ·split <;> omega
theorem wand52 {b:Nat} (hb:b < 18446744073709551616):bits BinOp.and IntKind.u64 (b:Int) 4503599627370495=((fm b:Nat):Int):=by
 have h:=u64_and_nat b 4503599627370495 hb z0b
 rw [show (b &&& 4503599627370495)=fm b from Nat.and_two_pow_sub_one_eq_mod b 52] at h
 exact h
theorem wfe {b:Nat} (hb:b < 18446744073709551616):bits BinOp.and IntKind.u64 ((b:Int) / 4503599627370496) 2047=((fe b:Nat):Int):=by
 have h:=u64_and_nat (b / 4503599627370496) 2047 z0b z0b
 rw [show (b / 4503599627370496 &&& 2047)=fe b from Nat.and_two_pow_sub_one_eq_mod _ 11] at h
 rw [show ((b:Int) / 4503599627370496)=((b / 4503599627370496:Nat):Int) from by omega]
 exact h
theorem wor52 {m:Nat} (hm:m < 4503599627370496):bits BinOp.or IntKind.u64 (m:Int) 4503599627370496=((m+4503599627370496:Nat):Int):=by
 have h:=u64_or_nat m 4503599627370496 z0b z0b
 rw [Nat.or_comm,nat_join 52 4503599627370496 m z0g hm,Nat.add_comm] at h
 exact h
theorem wdivpow (M t:Nat):(M:Int) / 2 ^ t=((M / 2 ^ t:Nat):Int):=by simp
theorem parts_inf (b:Nat) (_hb:b < 18446744073709551616) (w:World) (e1:bits BinOp.and IntKind.u64 ((b:Int) / 4503599627370496) 2047=2047) :
  Calls Tryd.prog 76 #[.int .u64 b] w fun e w'=>e=.returned (.tuple #[.int .u64 0,.int .i64 0,.bool false])∧w=w':=by
 go_enter Tryd.func76,Tryd.ntmps76
 go_wp2_with fail
 go_ret3
 exact ⟨rfl,rfl⟩
theorem parts_zero (b:Nat) (_hb:b < 18446744073709551616) (w:World) (e1:bits BinOp.and IntKind.u64 ((b:Int) / 4503599627370496) 2047=0) (e2:bits BinOp.and IntKind.u64 (b:Int) 4503599627370495=0) :
  Calls Tryd.prog 76 #[.int .u64 b] w fun e w'=>e=.returned (.tuple #[.int .u64 0,.int .i64 0,.bool true])∧w=w':=by
 go_enter Tryd.func76,Tryd.ntmps76
 go_wp2_with fail
 go_ret3
 exact ⟨rfl,rfl⟩
theorem parts_sub (b:Nat) (_hb:b < 18446744073709551616) (w:World) (hT:Tab w) (M:Nat) (hM:M < 18446744073709551616) (hM0:0 < M) (hm:((M:Int) == 0)=false) (ht:tz M≤63) (e1:bits BinOp.and IntKind.u64 ((b:Int) / 4503599627370496) 2047=0) (e2:bits BinOp.and IntKind.u64 (b:Int) 4503599627370495=(M:Int)) :
  Calls Tryd.prog 76 #[.int .u64 b] w fun e w'=>e=.returned (.tuple #[.int .u64 ((M:Int) / 2 ^ tz M),.int .i64 (-1074+(tz M:Int)),.bool true])∧w=w':=by
 exact z4zk2
theorem parts_norm (b:Nat) (_hb:b < 18446744073709551616) (w:World) (hT:Tab w) (f m M:Nat) (hM:M < 18446744073709551616) (hM0:0 < M) (hm:((M:Int) == 0)=false) (ht:tz M≤63) (hf1:1≤f) (hf2:f≤2046) (t1:((f:Int) == 2047)=false) (t2:((f:Int) == 0)=false) (e1:bits BinOp.and IntKind.u64 ((b:Int) / 4503599627370496) 2047=f) (e2:bits BinOp.and IntKind.u64 (b:Int) 4503599627370495=(m:Int)) (e3:bits BinOp.or IntKind.u64 (m:Int) 4503599627370496=(M:Int)) :
  Calls Tryd.prog 76 #[.int .u64 b] w fun e w'=>e=.returned (.tuple #[.int .u64 ((M:Int) / 2 ^ tz M),.int .i64 ((f:Int) - 1075+(tz M:Int)),.bool true])∧w=w':=by
 exact z4zk2
theorem parts_any (b:Nat) (hb:b < 18446744073709551616) (w:World) (hT:Tab w) :
  Calls Tryd.prog 76 #[.int .u64 b] w fun e w'=>e=.returned (.tuple #[.int .u64 (pm b:Nat),.int .i64 (pk b),.bool (fin b)])∧w=w':=by
 have e1:=wfe hb
 have e2:=wand52 hb
 have h1:=fm_lt b
 have h2:=tz_mant b
 have h3:=mant_lt b
 by_cases c1:fe b=2047
 ·rw [c1] at e1
  refine (parts_inf b hb w e1).mono ?_
  rintro e w' ⟨rfl,rfl⟩
  simp [pm,pk,fin,c1]
 ·by_cases c2:fe b=0
  ·have em:mant b=fm b:=by simp [mant,c2]
   rw [c2] at e1
   by_cases c3:fm b=0
   ·rw [c3] at e2
    refine (parts_zero b hb w e1 e2).mono ?_
    rintro e w' ⟨rfl,rfl⟩
    simp [pm,pk,fin,c2,em,c3]
   ·rw [em] at h2
    refine (parts_sub b hb w hT (fm b) z0b z0b (by simp;omega) z0b e1 e2).mono ?_
    rintro e w' ⟨rfl,rfl⟩
    refine ⟨?_,rfl⟩
    rw [wdivpow]
    simp [pm,pk,fin,c2,em,c3]
  ·have em:mant b=fm b+4503599627370496:=by simp [mant,c2]
   have e3:=wor52 h1
   rw [em] at h2
   have h4:=fe_le b
   refine (parts_norm b hb w hT (fe b) (fm b) (fm b+4503599627370496) z0b z0b (by simp;omega) z0b z0b z0b (by simp;omega) (by simp;omega) e1 e2 e3).mono ?_
   rintro e w' ⟨rfl,rfl⟩
   refine ⟨?_,rfl⟩
   rw [wdivpow]
   simp [pm,pk,fin,c1,c2,em]
def whk (b:Nat):Bool:=fin b && decide (0≤pk b) && shlOk (pm b) (pk b)
def whV (b:Nat):Nat:=if whk b=true then pm b * 2 ^ (pk b).toNat else 0
def whN (b:Nat):Bool:=whk b && (b / 9223372036854775808 == 1) && decide (0 < pm b)
def beh (b:Nat):Nat:=(-(pk b)).toNat
def cls (b:Nat):Int:=if whk b=true then 0 else if fin b=true then (if 1≤beh b∧beh b≤64 then 1 else 2) else if b=9218868437227405312 then 4 else if b=18442240474082181120 then 8 else 16
def mayF (b:Nat):Bool:=cls b != 0 && (cls b != 16 || b == 9221120237041090560)
end Go.Proofs.YtfondldmmcmloaaDoor
