/- Shl, MathFl, FlA, MathFlB, FlB. -/
import Derived.Test.YtfondldmmcmloaaGreatDoorPb4
set_option maxRecDepth 1000000
set_option maxHeartbeats 8000000
namespace Go.Proofs.YtfondldmmcmloaaGreatDoor
open Go Go.RowKit
theorem z5zk1 {p:Prop} (h:p:=by
 go_enter Tryz.func99,Tryz.ntmps99
 repeat any_goals (first|(go_at_call 100;refine (parts_any b hb _ (hT1 _)).mono ?_;rintro e w' ⟨rfl,rfl⟩)|(go_at_call 117;refine (Of_eq _ _).mono ?_;rintro e w' ⟨rfl,rfl⟩)|(go_at_call 116;refine (Shl_one (pm b) z0c (pk b) _ z0c z0c).mono ?_;rintro e w1 ⟨rfl,hb1⟩;have hl_w1_0:w.heap.size < w1.heap.size:=z0u;have c_w1_0_0:=(hb1).cell (p:=⟨w.heap.size,0,none⟩) z0b;simp [go_sem] at c_w1_0_0;have f_w1_0_0:=(hb1).frozen (p:=⟨w.heap.size,0,none⟩) z0b;simp [go_sem] at f_w1_0_0;have c_w1_0_1:=(hb1).cell (p:=⟨w.heap.size,1,none⟩) z0b;simp [go_sem] at c_w1_0_1;have f_w1_0_1:=(hb1).frozen (p:=⟨w.heap.size,1,none⟩) z0b;simp [go_sem] at f_w1_0_1;have c_w1_0_2:=(hb1).cell (p:=⟨w.heap.size,2,none⟩) z0b;simp [go_sem] at c_w1_0_2;have f_w1_0_2:=(hb1).frozen (p:=⟨w.heap.size,2,none⟩) z0b;simp [go_sem] at f_w1_0_2;have c_w1_0_3:=(hb1).cell (p:=⟨w.heap.size,3,none⟩) z0b;simp [go_sem] at c_w1_0_3;have f_w1_0_3:=(hb1).frozen (p:=⟨w.heap.size,3,none⟩) z0b;simp [go_sem] at f_w1_0_3;have c_w1_0_4:=(hb1).cell (p:=⟨w.heap.size,4,none⟩) z0b;simp [go_sem] at c_w1_0_4;have f_w1_0_4:=(hb1).frozen (p:=⟨w.heap.size,4,none⟩) z0b;simp [go_sem] at f_w1_0_4)|go_skip|go_guarded|go_step|go_upon|(dsimp only []))
 refine bodyPost_ret (v:=.tuple #[.agg #[.bool (whN b ),.int .u64 (lm ( shlV (pm b) (pk b)) 0:Nat),.int .u64 (lm ( shlV (pm b) (pk b)) 1:Nat),.int .u64 (lm ( shlV (pm b) (pk b)) 2:Nat),.int .u64 (lm ( shlV (pm b) (pk b)) 3:Nat)],.bool true]) ?_ rfl ⟨rfl,zb1⟩
 simp [results,Tryz.results99,go_sem,hl_w1_0,c_w1_0_0,c_w1_0_1,c_w1_0_2,c_w1_0_3,c_w1_0_4,HN.out,HG.out]):p:=h
theorem z5zk2 {p:Prop} (h:p:=by
 go_enter Tryz.func99,Tryz.ntmps99
 go_wp2_with (first|(go_at_call 100;refine (parts_any b hb _ (hT1 _)).mono ?_;rintro e w' ⟨rfl,rfl⟩))
 refine bodyPost_ret (v:=.tuple #[.agg #[.bool false,.int .u64 0,.int .u64 0,.int .u64 0,.int .u64 0],.bool false]) ?_ rfl ⟨rfl,zb1⟩
 simp [results,Tryz.results99,go_sem]):p:=h
theorem z5zk3 {p:Prop} (h:p:=by
 go_enter Tryz.func100,Tryz.ntmps100
 go_wp2_with (first|(go_at_call 118;refine (Tz64_any M hM0 hM _ hT).mono ?_;rintro e w' ⟨rfl,rfl⟩))
 go_ret3
 exact ⟨rfl,rfl⟩):p:=h
end Go.Proofs.YtfondldmmcmloaaGreatDoor
namespace Go.Proofs.YtfondldmmcmloaaGreatDoor
open Go.RowKit
theorem shi64 {a r:Nat} (hr:r≤63) (ha:a < 18446744073709551616):shi a r < 18446744073709551616:=by
 have h1:shi a r < 2 ^ r:=shi_lt z0c z0c
 have h2:2 ^ r≤2 ^ 64:=Nat.pow_le_pow_right z0e z0c
 omega
theorem slo64 {a r:Nat}:slo a r < 18446744073709551616:=by have:=slo_lt a r;omega
theorem shl_lm (n k j:Nat):lm (n * 2 ^ k) j=if j < k / 64 then 0 else lm (n * 2 ^ (k % 64)) (j - k / 64):=by
 have e:n * 2 ^ k=n * 2 ^ (k % 64) * 2 ^ (64 * (k / 64)):=by
  rw [Nat.mul_assoc,← Nat.pow_add]
  congr 2
  omega
 rw [e]
 split
 ·exact lm_shift_low _ _ _ z0w
 ·have e2:=lm_shift (n * 2 ^ (k % 64)) (k / 64) (j - k / 64)
  rw [show j - k / 64+k / 64=j from by omega] at e2
  exact e2
theorem ztest {a0 a1 a2 a3:Nat} (h:of4 a0 a1 a2 a3=0):(((a0:Int) == 0) && ((a1:Int) == 0) && ((a2:Int) == 0) && ((a3:Int) == 0))=true:=by
 unfold of4 at h
 simp
 omega
/-- Shl that fits. -/
theorem Shl_ok (a0 a1 a2 a3:Nat) (h0:a0 < 18446744073709551616) (h1:a1 < 18446744073709551616) (h2:a2 < 18446744073709551616) (h3:a3 < 18446744073709551616) (k:Nat) (hk:k < 9223372036854775808) (w:World) (hok:of4 a0 a1 a2 a3=0∨(k:Int)≤256 - (bl (of4 a0 a1 a2 a3):Int)) :
  Calls Tryz.prog 116 #[.agg #[.int .u64 a0,.int .u64 a1,.int .u64 a2,.int .u64 a3],.int .i64 k] w fun e w'=>e=.returned (.tuple #[.agg #[.int .u64 (lm (of4 a0 a1 a2 a3 * 2 ^ k) 0:Nat),.int .u64 (lm (of4 a0 a1 a2 a3 * 2 ^ k) 1:Nat),.int .u64 (lm (of4 a0 a1 a2 a3 * 2 ^ k) 2:Nat),.int .u64 (lm (of4 a0 a1 a2 a3 * 2 ^ k) 3:Nat)],.bool true])∧Below w.heap.size w w':=by
 have hz:(((a0:Int) == 0) && ((a1:Int) == 0) && ((a2:Int) == 0) && ((a3:Int) == 0))=true∨(k:Int)≤256 - (len4 a0 a1 a2 a3:Nat):=by
  rcases hok with h|h
  ·exact .inl (ztest h)
  ·rw [len4_eq h0 h1 h2 h3];exact .inr h
 have T0:=shl_lm (of4 a0 a1 a2 a3) k 0
 have T1:=shl_lm (of4 a0 a1 a2 a3) k 1
 have T2:=shl_lm (of4 a0 a1 a2 a3) k 2
 have T3:=shl_lm (of4 a0 a1 a2 a3) k 3
 obtain ⟨s0,s1,s2,s3⟩:=shl_limbs (a:=a0) (b:=a1) (c:=a2) (d:=a3) z0c z0c z0c z0c (k % 64) z0c
 by_cases hq0:k / 64=0
 ·by_cases hr:k % 64=0
  ·refine (Shl_0z a0 a1 a2 a3 h0 h1 h2 h3 k w z0c z0c z0c hz (or0 h0) (or0 h1) (or0 h2) (or0 h3)).mono ?_
   rintro e w' ⟨rfl,hb⟩
   rw [hr,Nat.pow_zero,Nat.mul_one] at s0 s1 s2 s3
   refine ⟨?_,hb⟩
   rw [T0,T1,T2,T3]
   simp [hq0,s0,s1,s2,s3,hr,slo_zero (show a0 < 2 ^ 64 by omega),slo_zero (show a1 < 2 ^ 64 by omega),slo_zero (show a2 < 2 ^ 64 by omega),slo_zero (show a3 < 2 ^ 64 by omega),shi_zero (show a0 < 2 ^ 64 by omega),shi_zero (show a1 < 2 ^ 64 by omega),shi_zero (show a2 < 2 ^ 64 by omega)]
  ·refine (Shl_0p a0 a1 a2 a3 (slo a0 (k % 64)) (slo a1 (k % 64)) (slo a2 (k % 64)) (slo a3 (k % 64)) (shi a0 (k % 64)) (shi a1 (k % 64)) (shi a2 (k % 64)) (shi a0 (k % 64)+slo a1 (k % 64)) (shi a1 (k % 64)+slo a2 (k % 64)) (shi a2 (k % 64)+slo a3 (k % 64)) h0 h1 h2 h3 k w z0c z0c z0c hz (wlo z0c) (wlo z0c) (wlo z0c) (wlo z0c) (whi z0c) (whi z0c) (whi z0c) (wor z0c z0c) (wor z0c z0c) (wor z0c z0c) (or0 slo64) (or0 (shi64 z0c h0)) (or0 (shi64 z0c h1)) (or0 (shi64 z0c h2))).mono ?_
   rintro e w' ⟨rfl,hb⟩
   refine ⟨?_,hb⟩
   rw [T0,T1,T2,T3]
   simp [hq0,s0,s1,s2,s3]
 by_cases hq1:k / 64=1
 ·by_cases hr:k % 64=0
  ·refine (Shl_1z a0 a1 a2 a3 h0 h1 h2 h3 k w z0c z0c z0c hz (or0 h0) (or0 h1) (or0 h2)).mono ?_
   rintro e w' ⟨rfl,hb⟩
   rw [hr,Nat.pow_zero,Nat.mul_one] at s0 s1 s2 s3
   refine ⟨?_,hb⟩
   rw [T0,T1,T2,T3]
   simp [hq1,s0,s1,s2,hr,slo_zero (show a0 < 2 ^ 64 by omega),slo_zero (show a1 < 2 ^ 64 by omega),slo_zero (show a2 < 2 ^ 64 by omega),shi_zero (show a0 < 2 ^ 64 by omega),shi_zero (show a1 < 2 ^ 64 by omega)]
  ·refine (Shl_1p a0 a1 a2 a3 (slo a0 (k % 64)) (slo a1 (k % 64)) (slo a2 (k % 64)) (shi a0 (k % 64)) (shi a1 (k % 64)) (shi a0 (k % 64)+slo a1 (k % 64)) (shi a1 (k % 64)+slo a2 (k % 64)) h0 h1 h2 h3 k w z0c z0c z0c hz (wlo z0c) (wlo z0c) (wlo z0c) (whi z0c) (whi z0c) (wor z0c z0c) (wor z0c z0c) (or0 slo64) (or0 (shi64 z0c h0)) (or0 (shi64 z0c h1))).mono ?_
   rintro e w' ⟨rfl,hb⟩
   refine ⟨?_,hb⟩
   rw [T0,T1,T2,T3]
   simp [hq1,s0,s1,s2]
 by_cases hq2:k / 64=2
 ·by_cases hr:k % 64=0
  ·refine (Shl_2z a0 a1 a2 a3 h0 h1 h2 h3 k w z0c z0c z0c hz (or0 h0) (or0 h1)).mono ?_
   rintro e w' ⟨rfl,hb⟩
   rw [hr,Nat.pow_zero,Nat.mul_one] at s0 s1 s2 s3
   refine ⟨?_,hb⟩
   rw [T0,T1,T2,T3]
   simp [hq2,s0,s1,hr,slo_zero (show a0 < 2 ^ 64 by omega),slo_zero (show a1 < 2 ^ 64 by omega),shi_zero (show a0 < 2 ^ 64 by omega)]
  ·refine (Shl_2p a0 a1 a2 a3 (slo a0 (k % 64)) (slo a1 (k % 64)) (shi a0 (k % 64)) (shi a0 (k % 64)+slo a1 (k % 64)) h0 h1 h2 h3 k w z0c z0c z0c hz (wlo z0c) (wlo z0c) (whi z0c) (wor z0c z0c) (or0 slo64) (or0 (shi64 z0c h0))).mono ?_
   rintro e w' ⟨rfl,hb⟩
   refine ⟨?_,hb⟩
   rw [T0,T1,T2,T3]
   simp [hq2,s0,s1]
 by_cases hq3:k / 64=3
 ·by_cases hr:k % 64=0
  ·refine (Shl_3z a0 a1 a2 a3 h0 h1 h2 h3 k w z0c z0c z0c hz (or0 h0)).mono ?_
   rintro e w' ⟨rfl,hb⟩
   rw [hr,Nat.pow_zero,Nat.mul_one] at s0 s1 s2 s3
   refine ⟨?_,hb⟩
   rw [T0,T1,T2,T3]
   simp [hq3,s0,hr,slo_zero (show a0 < 2 ^ 64 by omega)]
  ·refine (Shl_3p a0 a1 a2 a3 (slo a0 (k % 64)) h0 h1 h2 h3 k w z0c z0c z0c hz (wlo z0c) (or0 slo64)).mono ?_
   rintro e w' ⟨rfl,hb⟩
   refine ⟨?_,hb⟩
   rw [T0,T1,T2,T3]
   simp [hq3,s0]
 ·have hzero:of4 a0 a1 a2 a3=0:=by
   rcases hok with h|h
   ·exact h
   ·by_cases h0':of4 a0 a1 a2 a3=0
    ·exact h0'
    ·have:=bl_pos (n:=of4 a0 a1 a2 a3) z0c
     omega
  refine (Shl_4 a0 a1 a2 a3 h0 h1 h2 h3 k w z0c z0c z0c (ztest hzero)).mono ?_
  rintro e w' ⟨rfl,hb⟩
  refine ⟨?_,hb⟩
  simp [hzero,lm_zero]
/-- Shl that does not fit. -/
theorem Shl_no (a0 a1 a2 a3:Nat) (h0:a0 < 18446744073709551616) (h1:a1 < 18446744073709551616) (h2:a2 < 18446744073709551616) (h3:a3 < 18446744073709551616) (k:Int) (w:World) (_hk0 : -9223372036854775808≤k) (hok:shlOk (of4 a0 a1 a2 a3) k=false) :
  Calls Tryz.prog 116 #[.agg #[.int .u64 a0,.int .u64 a1,.int .u64 a2,.int .u64 a3],.int .i64 k] w fun e w'=>e=.returned (.tuple #[.agg #[.int .u64 0,.int .u64 0,.int .u64 0,.int .u64 0],.bool false])∧Below w.heap.size w w':=by
 unfold shlOk at hok
 rw [decide_eq_false_iff_not] at hok
 by_cases hn:k < 0
 ·clear hok
  go_enter Tryz.func116,Tryz.ntmps116
  go_wp2_with fail
  refine bodyPost_ret (v:=.tuple #[.agg #[.int .u64 0,.int .u64 0,.int .u64 0,.int .u64 0],.bool false]) ?_ rfl ⟨rfl,zb1⟩
  simp [results,Tryz.results116,go_sem]
 ·have hnz:¬ of4 a0 a1 a2 a3=0:=fun h=>hok ⟨by omega,.inl h⟩
  have hlen:256 - (len4 a0 a1 a2 a3:Nat) < k:=by
   rw [len4_eq h0 h1 h2 h3]
   exact Int.not_le.1 fun h=>hok ⟨by omega,.inr h⟩
  have hl4:len4 a0 a1 a2 a3≤256:=by
   rw [len4_eq h0 h1 h2 h3]
   exact (bl_le_iff _ 256).2 (of4_lt z0c z0c z0c z0c)
  have hnz2:¬ (a0=0∧a1=0∧a2=0∧a3=0):=fun h=>hnz (by unfold of4;omega)
  clear hok hnz
  go_enter Tryz.func116,Tryz.ntmps116
  go_upto_region 1 with fail
  go_cut [23] (fun s23 wx=>s23=.bool true∧ShlIn w a0 a1 a2 a3 wx)
  case first=>
   go_wp2_with (first|(go_at_call 119;refine (Len_any a0 a1 a2 a3 h0 h1 h2 h3 _).mono ?_;rintro e w1 ⟨rfl,hb1⟩))
   all_goals (go_meet;case rel=>first|exact ⟨by simp;omega,zb1,((Cells4.new _ _ _ _ _ _).alloc _).below hb1,(Cells4.new1 _ _ _ _ _ _ _).below hb1⟩|(exfalso;simp_all;done)|(exfalso;simp_all;omega))
  case rest=>
   obtain ⟨rfl,hb,-,⟨⟨e0,e1,e2,e3⟩,⟨f0,f1,f2,f3⟩,hl2⟩⟩:=hcut
   clear hlen hnz2
   go_wp2_with fail
   refine bodyPost_ret (v:=.tuple #[.agg #[.int .u64 0,.int .u64 0,.int .u64 0,.int .u64 0],.bool false]) ?_ rfl ⟨rfl,zb1⟩
   simp [results,Tryz.results116,go_sem,e0,e1,e2,e3]
theorem Shl_any (a0 a1 a2 a3:Nat) (h0:a0 < 18446744073709551616) (h1:a1 < 18446744073709551616) (h2:a2 < 18446744073709551616) (h3:a3 < 18446744073709551616) (k:Int) (w:World) (hk0 : -9223372036854775808≤k) (hk1:k < 9223372036854775808) :
  Calls Tryz.prog 116 #[.agg #[.int .u64 a0,.int .u64 a1,.int .u64 a2,.int .u64 a3],.int .i64 k] w fun e w'=>e=.returned (.tuple #[.agg #[.int .u64 (lm (shlV (of4 a0 a1 a2 a3) k) 0:Nat),.int .u64 (lm (shlV (of4 a0 a1 a2 a3) k) 1:Nat),.int .u64 (lm (shlV (of4 a0 a1 a2 a3) k) 2:Nat),.int .u64 (lm (shlV (of4 a0 a1 a2 a3) k) 3:Nat)],.bool (shlOk (of4 a0 a1 a2 a3) k)])∧Below w.heap.size w w':=by
 cases h:shlOk (of4 a0 a1 a2 a3) k with
 | false=>
  refine (Shl_no a0 a1 a2 a3 h0 h1 h2 h3 k w hk0 h).mono ?_
  rintro e w' ⟨rfl,hb⟩
  exact ⟨by simp [shlV,h,lm_zero],hb⟩
 | true=>
  have hh:=h
  unfold shlOk at hh
  rw [decide_eq_true_iff] at hh
  obtain ⟨j,rfl⟩:∃ j:Nat,k=j:=⟨k.toNat,by omega⟩
  refine (Shl_ok a0 a1 a2 a3 h0 h1 h2 h3 j z0c w hh.2).mono ?_
  rintro e w' ⟨rfl,hb⟩
  exact ⟨by simp [shlV,h],hb⟩
def fe (b:Nat):Nat:=b / 4503599627370496 % 2048
def fm (b:Nat):Nat:=b % 4503599627370496
def mant (b:Nat):Nat:=if fe b=0 then fm b else fm b+4503599627370496
def fin (b:Nat):Bool:=fe b != 2047
def pm (b:Nat):Nat:=if fe b=2047 then 0 else mant b / 2 ^ tz (mant b)
def pk (b:Nat):Int:=if fe b=2047∨mant b=0 then 0 else (if fe b=0 then 1 else (fe b:Int)) - 1075+(tz (mant b):Int)
theorem fe_le (b:Nat):fe b≤2047:=by unfold fe;omega
theorem fm_lt (b:Nat):fm b < 4503599627370496:=by unfold fm;omega
theorem mant_lt (b:Nat):mant b < 9007199254740992:=by
 have:=fm_lt b
 unfold mant
 split <;> omega
theorem tz_mant (b:Nat):tz (mant b)≤52:=by
 by_cases h0:mant b=0
 ·rw [h0,tz_zero];omega
 ·have h1:=tz_lt_bl (n:=mant b) z0c
  have h2:bl (mant b)≤53:=(bl_le_iff _ 53).2 (mant_lt b)
  omega
theorem pm_lt (b:Nat):pm b < 9007199254740992:=by
 unfold pm
 split
 ·omega
 ·exact Nat.lt_of_le_of_lt (Nat.div_le_self _ _) (mant_lt b)
theorem pk_le (b:Nat):pk b≤1023 ∧ -1074≤pk b:=by
 have h1:=tz_mant b
 have h2:=fe_le b
 unfold pk
 split
 ·omega
 ·split <;> omega
theorem pm_odd {b:Nat} (h1:fe b≠2047) (h2:mant b≠0):pm b % 2=1:=by
 unfold pm
 rw [if_neg h1]
 exact odd_part_odd z0c
theorem pm_zero_iff (b:Nat):pm b=0↔fe b=2047∨mant b=0:=by
 constructor
 ·intro h
  by_cases h1:fe b=2047
  ·exact .inl h1
  ·by_cases h2:mant b=0
   ·exact .inr h2
   ·have:=pm_odd h1 h2
    omega
 ·rintro (h|h)
  ·simp [pm,h]
  ·simp [pm,h]
theorem pk_zero {b:Nat} (h:pm b=0):pk b=0:=by
 have:=(pm_zero_iff b).1 h
 simp [pk,this]

theorem wand52 {b:Nat} (hb:b < 18446744073709551616):bits BinOp.and IntKind.u64 (b:Int) 4503599627370495=((fm b:Nat):Int):=by
 have h:=u64_and_nat b 4503599627370495 hb z0c
 rw [show (b &&& 4503599627370495)=fm b from Nat.and_two_pow_sub_one_eq_mod b 52] at h
 exact h
theorem wfe {b:Nat} (hb:b < 18446744073709551616):bits BinOp.and IntKind.u64 ((b:Int) / 4503599627370496) 2047=((fe b:Nat):Int):=by
 have h:=u64_and_nat (b / 4503599627370496) 2047 z0c z0c
 rw [show (b / 4503599627370496 &&& 2047)=fe b from Nat.and_two_pow_sub_one_eq_mod _ 11] at h
 rw [show ((b:Int) / 4503599627370496)=((b / 4503599627370496:Nat):Int) from by omega]
 exact h
theorem wor52 {m:Nat} (hm:m < 4503599627370496):bits BinOp.or IntKind.u64 (m:Int) 4503599627370496=((m+4503599627370496:Nat):Int):=by
 have h:=u64_or_nat m 4503599627370496 z0c z0c
 rw [Nat.or_comm,nat_join 52 4503599627370496 m z0e hm,Nat.add_comm] at h
 exact h
theorem wdivpow (M t:Nat):(M:Int) / 2 ^ t=((M / 2 ^ t:Nat):Int):=by simp
theorem parts_inf (b:Nat) (_hb:b < 18446744073709551616) (w:World) (e1:bits BinOp.and IntKind.u64 ((b:Int) / 4503599627370496) 2047=2047) :
  Calls Tryz.prog 100 #[.int .u64 b] w fun e w'=>e=.returned (.tuple #[.int .u64 0,.int .i64 0,.bool false])∧w=w':=by
 go_enter Tryz.func100,Tryz.ntmps100
 go_wp2_with fail
 go_ret3
 exact ⟨rfl,rfl⟩
theorem parts_zero (b:Nat) (_hb:b < 18446744073709551616) (w:World) (e1:bits BinOp.and IntKind.u64 ((b:Int) / 4503599627370496) 2047=0) (e2:bits BinOp.and IntKind.u64 (b:Int) 4503599627370495=0) :
  Calls Tryz.prog 100 #[.int .u64 b] w fun e w'=>e=.returned (.tuple #[.int .u64 0,.int .i64 0,.bool true])∧w=w':=by
 go_enter Tryz.func100,Tryz.ntmps100
 go_wp2_with fail
 go_ret3
 exact ⟨rfl,rfl⟩
theorem parts_sub (b:Nat) (_hb:b < 18446744073709551616) (w:World) (hT:Tab w) (M:Nat) (hM:M < 18446744073709551616) (hM0:0 < M) (hm:((M:Int) == 0)=false) (ht:tz M≤63) (e1:bits BinOp.and IntKind.u64 ((b:Int) / 4503599627370496) 2047=0) (e2:bits BinOp.and IntKind.u64 (b:Int) 4503599627370495=(M:Int)) :
  Calls Tryz.prog 100 #[.int .u64 b] w fun e w'=>e=.returned (.tuple #[.int .u64 ((M:Int) / 2 ^ tz M),.int .i64 (-1074+(tz M:Int)),.bool true])∧w=w':=by
 exact z5zk3
theorem parts_norm (b:Nat) (_hb:b < 18446744073709551616) (w:World) (hT:Tab w) (f m M:Nat) (hM:M < 18446744073709551616) (hM0:0 < M) (hm:((M:Int) == 0)=false) (ht:tz M≤63) (hf1:1≤f) (hf2:f≤2046) (t1:((f:Int) == 2047)=false) (t2:((f:Int) == 0)=false) (e1:bits BinOp.and IntKind.u64 ((b:Int) / 4503599627370496) 2047=f) (e2:bits BinOp.and IntKind.u64 (b:Int) 4503599627370495=(m:Int)) (e3:bits BinOp.or IntKind.u64 (m:Int) 4503599627370496=(M:Int)) :
  Calls Tryz.prog 100 #[.int .u64 b] w fun e w'=>e=.returned (.tuple #[.int .u64 ((M:Int) / 2 ^ tz M),.int .i64 ((f:Int) - 1075+(tz M:Int)),.bool true])∧w=w':=by
 exact z5zk3
theorem parts_any (b:Nat) (hb:b < 18446744073709551616) (w:World) (hT:Tab w) :
  Calls Tryz.prog 100 #[.int .u64 b] w fun e w'=>e=.returned (.tuple #[.int .u64 (pm b:Nat),.int .i64 (pk b),.bool (fin b)])∧w=w':=by
 have e1:=wfe hb
 have e2:=wand52 hb
 have h1:=fm_lt b
 have h2:=tz_mant b
 have h3:=mant_lt b
 by_cases c1:fe b=2047
 ·rw [c1] at e1
  refine (parts_inf b hb w e1).mono ?_
  rintro e w' ⟨rfl,rfl⟩
  simp [pm,pk,fin,c1]
 ·by_cases c2:fe b=0
  ·have em:mant b=fm b:=by simp [mant,c2]
   rw [c2] at e1
   by_cases c3:fm b=0
   ·rw [c3] at e2
    refine (parts_zero b hb w e1 e2).mono ?_
    rintro e w' ⟨rfl,rfl⟩
    simp [pm,pk,fin,c2,em,c3]
   ·rw [em] at h2
    refine (parts_sub b hb w hT (fm b) z0c z0c z0a1 z0c e1 e2).mono ?_
    rintro e w' ⟨rfl,rfl⟩
    refine ⟨?_,rfl⟩
    rw [wdivpow]
    simp [pm,pk,fin,c2,em,c3]
  ·have em:mant b=fm b+4503599627370496:=by simp [mant,c2]
   have e3:=wor52 h1
   rw [em] at h2
   have h4:=fe_le b
   refine (parts_norm b hb w hT (fe b) (fm b) (fm b+4503599627370496) z0c z0c z0a1 z0c z0c z0c z0a1 z0a1 e1 e2 e3).mono ?_
   rintro e w' ⟨rfl,rfl⟩
   refine ⟨?_,rfl⟩
   rw [wdivpow]
   simp [pm,pk,fin,c1,c2,em]
def whk (b:Nat):Bool:=fin b && decide (0≤pk b) && shlOk (pm b) (pk b)
def whV (b:Nat):Nat:=if whk b=true then pm b * 2 ^ (pk b).toNat else 0
def whN (b:Nat):Bool:=whk b && (b / 9223372036854775808 == 1) && decide (0 < pm b)
def beh (b:Nat):Nat:=(-(pk b)).toNat
def cls (b:Nat):Int:=if whk b=true then 0 else if fin b=true then (if 1≤beh b∧beh b≤64 then 1 else 2) else if b=9218868437227405312 then 4 else if b=18442240474082181120 then 8 else 16
def mayF (b:Nat):Bool:=cls b != 0 && (cls b != 16 || b == 9221120237041090560)
theorem Shl_one (m:Nat) (hm:m < 18446744073709551616) (k:Int) (w:World) (hk0 : -9223372036854775808≤k) (hk1:k < 9223372036854775808) :
  Calls Tryz.prog 116 #[.agg #[.int .u64 (m:Int),.int .u64 0,.int .u64 0,.int .u64 0],.int .i64 k] w fun e w'=>e=.returned (.tuple #[.agg #[.int .u64 (lm (shlV m k) 0:Nat),.int .u64 (lm (shlV m k) 1:Nat),.int .u64 (lm (shlV m k) 2:Nat),.int .u64 (lm (shlV m k) 3:Nat)],.bool (shlOk m k)])∧Below w.heap.size w w':=by
 have h:=Shl_any m 0 0 0 hm z0e z0e z0e k w hk0 hk1
 rw [of4_0] at h
 exact h
theorem Whole_no (b:Nat) (hb:b < 18446744073709551616) (w:World) (hT:Tab w) (h:fin b=false∨pk b < 0) :
  Calls Tryz.prog 99 #[.int .u64 b] w fun e w'=>e=.returned (.tuple #[.agg #[.bool false,.int .u64 0,.int .u64 0,.int .u64 0,.int .u64 0],.bool false])∧Below w.heap.size w w':=by
 have hT1:=hT.alloc
 rcases h with h|h
 ·exact z5zk2
 ·cases hf:fin b
  ·exact z5zk2
  ·exact z5zk2
theorem Whole_no2 (b:Nat) (hb:b < 18446744073709551616) (w:World) (hT:Tab w) (hf:fin b=true) (hk:0≤pk b) (hs:shlOk (pm b) (pk b)=false) :
  Calls Tryz.prog 99 #[.int .u64 b] w fun e w'=>e=.returned (.tuple #[.agg #[.bool false,.int .u64 0,.int .u64 0,.int .u64 0,.int .u64 0],.bool false])∧Below w.heap.size w w':=by
 have hT1:=hT.alloc
 have hm:=pm_lt b
 have hk2:=pk_le b
 go_enter Tryz.func99,Tryz.ntmps99
 repeat any_goals (first|(go_at_call 100;refine (parts_any b hb _ (hT1 _)).mono ?_;rintro e w' ⟨rfl,rfl⟩)|(go_at_call 117;refine (Of_eq _ _).mono ?_;rintro e w' ⟨rfl,rfl⟩)|(go_at_call 116;refine (Shl_one (pm b) z0c (pk b) _ z0c z0c).mono ?_;rintro e w1 ⟨rfl,hb1⟩;have hl_w1_0:w.heap.size < w1.heap.size:=z0u;have c_w1_0_0:=(hb1).cell (p:=⟨w.heap.size,0,none⟩) z0b;simp [go_sem] at c_w1_0_0;have f_w1_0_0:=(hb1).frozen (p:=⟨w.heap.size,0,none⟩) z0b;simp [go_sem] at f_w1_0_0;have c_w1_0_1:=(hb1).cell (p:=⟨w.heap.size,1,none⟩) z0b;simp [go_sem] at c_w1_0_1;have f_w1_0_1:=(hb1).frozen (p:=⟨w.heap.size,1,none⟩) z0b;simp [go_sem] at f_w1_0_1;have c_w1_0_2:=(hb1).cell (p:=⟨w.heap.size,2,none⟩) z0b;simp [go_sem] at c_w1_0_2;have f_w1_0_2:=(hb1).frozen (p:=⟨w.heap.size,2,none⟩) z0b;simp [go_sem] at f_w1_0_2;have c_w1_0_3:=(hb1).cell (p:=⟨w.heap.size,3,none⟩) z0b;simp [go_sem] at c_w1_0_3;have f_w1_0_3:=(hb1).frozen (p:=⟨w.heap.size,3,none⟩) z0b;simp [go_sem] at f_w1_0_3;have c_w1_0_4:=(hb1).cell (p:=⟨w.heap.size,4,none⟩) z0b;simp [go_sem] at c_w1_0_4;have f_w1_0_4:=(hb1).frozen (p:=⟨w.heap.size,4,none⟩) z0b;simp [go_sem] at f_w1_0_4)|go_skip|go_guarded|go_step|go_upon|(dsimp only []))
 refine bodyPost_ret (v:=.tuple #[.agg #[.bool false,.int .u64 0,.int .u64 0,.int .u64 0,.int .u64 0],.bool false]) ?_ rfl ⟨rfl,zb1⟩
 simp [results,Tryz.results99,go_sem,hl_w1_0,c_w1_0_0,c_w1_0_1,c_w1_0_2,c_w1_0_3,c_w1_0_4]
theorem Whole_yes (b:Nat) (hb:b < 18446744073709551616) (w:World) (hT:Tab w) (hf:fin b=true) (hk:0≤pk b) (hs:shlOk (pm b) (pk b)=true) :
  Calls Tryz.prog 99 #[.int .u64 b] w fun e w'=>e=.returned (.tuple #[.agg #[.bool (whN b ),.int .u64 (lm ( shlV (pm b) (pk b)) 0:Nat),.int .u64 (lm ( shlV (pm b) (pk b)) 1:Nat),.int .u64 (lm ( shlV (pm b) (pk b)) 2:Nat),.int .u64 (lm ( shlV (pm b) (pk b)) 3:Nat)],.bool true])∧Below w.heap.size w w':=by
 have hT1:=hT.alloc
 have hm:=pm_lt b
 have hk2:=pk_le b
 have hn:whN b=(decide (b / 9223372036854775808=1) && decide (0 < pm b)):=by simp [whN,whk,hf,hk,hs];rfl
 have HN:=Lib.hid hn
 clear hn
 by_cases g:(b:Int) / 9223372036854775808=1
 ·have HG:=Lib.hid (show b / 9223372036854775808=1 by omega)
  exact z5zk1
 ·have HG:=Lib.hid (show ¬ b / 9223372036854775808=1 by omega)
  exact z5zk1
theorem Whole_any (b:Nat) (hb:b < 18446744073709551616) (w:World) (hT:Tab w) :
  Calls Tryz.prog 99 #[.int .u64 b] w fun e w'=>e=.returned (.tuple #[.agg #[.bool (whN b ),.int .u64 (lm ( whV b) 0:Nat),.int .u64 (lm ( whV b) 1:Nat),.int .u64 (lm ( whV b) 2:Nat),.int .u64 (lm ( whV b) 3:Nat)],.bool (whk b)])∧Below w.heap.size w w':=by
 by_cases h1:fin b=false∨pk b < 0
 ·have hk:whk b=false:=by
   unfold whk
   rcases h1 with h|h
   ·simp [h]
   ·have:¬ 0≤pk b:=by omega
    simp [this]
  refine (Whole_no b hb w hT h1).mono ?_
  rintro e w' ⟨rfl,hb⟩
  exact ⟨by simp [whN,whV,hk,lm_zero],hb⟩
 ·have hf:fin b=true:=by
   cases h:fin b
   ·exact absurd (Or.inl h) h1
   ·rfl
  have h0:0≤pk b:=by omega
  cases hs:shlOk (pm b) (pk b) with
  | false=>
   have hk:whk b=false:=by simp [whk,hs]
   refine (Whole_no2 b hb w hT hf h0 hs).mono ?_
   rintro e w' ⟨rfl,hb⟩
   exact ⟨by simp [whN,whV,hk,lm_zero],hb⟩
  | true=>
   have hk:whk b=true:=by simp [whk,hs,hf,h0]
   refine (Whole_yes b hb w hT hf h0 hs).mono ?_
   rintro e w' ⟨rfl,hb⟩
   exact ⟨by simp [whV,hk,shlV,hs],hb⟩
end Go.Proofs.YtfondldmmcmloaaGreatDoor
