/- FlB, FlC, Cmp6. -/
import Derived.Test.YtfondldmmcmloaaDoorPd4
set_option maxRecDepth 1000000
set_option maxHeartbeats 8000000
namespace Go.Proofs.YtfondldmmcmloaaDoor
open Go Go.RowKit
theorem z5zk1 {p:Prop} (h:p:=by
 go_enter Tryd.func72,Tryd.ntmps72
 repeat any_goals (first|(go_at_call 75;refine (Whole_any b hb _ hT).mono ?_;rintro e w1 ⟨rfl,hb1⟩)|(go_at_call 76;refine (parts_any b hb _ ((hT.below hb1).alloc _)).mono ?_;rintro e w' ⟨rfl,rfl⟩)|(go_at_call 77;refine (Behind_any b hb _ ((hT.below hb1).alloc _)).mono ?_;rintro e w' ⟨rfl,rfl⟩)|go_skip|go_guarded|go_step|go_upon|(dsimp only []))
 go_ret
 exact ⟨by simp,zb2⟩):p:=h
theorem z5zk2 {p:Prop} (h:p:=by
 go_enter Tryd.func75,Tryd.ntmps75
 repeat any_goals (first|(go_at_call 76;refine (parts_any b hb _ (hT1 _)).mono ?_;rintro e w' ⟨rfl,rfl⟩)|(go_at_call 83;refine (Of_eq _ _).mono ?_;rintro e w' ⟨rfl,rfl⟩)|(go_at_call 82;refine (Shl_one (pm b) z0b (pk b) _ z0b z0b).mono ?_;rintro e w1 ⟨rfl,hb1⟩;have hl_w1_0:w.heap.size < w1.heap.size:=(by have h_:=(hb1).size;simp at h_;omega);have c_w1_0_0:=(hb1).cell (p:=⟨w.heap.size,0,none⟩) z0h;simp [go_sem] at c_w1_0_0;have f_w1_0_0:=(hb1).frozen (p:=⟨w.heap.size,0,none⟩) z0h;simp [go_sem] at f_w1_0_0;have c_w1_0_1:=(hb1).cell (p:=⟨w.heap.size,1,none⟩) z0h;simp [go_sem] at c_w1_0_1;have f_w1_0_1:=(hb1).frozen (p:=⟨w.heap.size,1,none⟩) z0h;simp [go_sem] at f_w1_0_1;have c_w1_0_2:=(hb1).cell (p:=⟨w.heap.size,2,none⟩) z0h;simp [go_sem] at c_w1_0_2;have f_w1_0_2:=(hb1).frozen (p:=⟨w.heap.size,2,none⟩) z0h;simp [go_sem] at f_w1_0_2;have c_w1_0_3:=(hb1).cell (p:=⟨w.heap.size,3,none⟩) z0h;simp [go_sem] at c_w1_0_3;have f_w1_0_3:=(hb1).frozen (p:=⟨w.heap.size,3,none⟩) z0h;simp [go_sem] at f_w1_0_3;have c_w1_0_4:=(hb1).cell (p:=⟨w.heap.size,4,none⟩) z0h;simp [go_sem] at c_w1_0_4;have f_w1_0_4:=(hb1).frozen (p:=⟨w.heap.size,4,none⟩) z0h;simp [go_sem] at f_w1_0_4)|go_skip|go_guarded|go_step|go_upon|(dsimp only []))
 refine bodyPost_ret (v:=.tuple #[.agg #[.bool (whN b ),.int .u64 (lm ( shlV (pm b) (pk b)) 0:Nat),.int .u64 (lm ( shlV (pm b) (pk b)) 1:Nat),.int .u64 (lm ( shlV (pm b) (pk b)) 2:Nat),.int .u64 (lm ( shlV (pm b) (pk b)) 3:Nat)],.bool true]) ?_ rfl ⟨rfl,zb1⟩
 simp [results,Tryd.results75,go_sem,hl_w1_0,c_w1_0_0,c_w1_0_1,c_w1_0_2,c_w1_0_3,c_w1_0_4,HN.out,HG.out]):p:=h
theorem z5zk3 {p:Prop} (h:p:=by
 go_enter Tryd.func75,Tryd.ntmps75
 go_wp2_with (first|(go_at_call 76;refine (parts_any b hb _ (hT1 _)).mono ?_;rintro e w' ⟨rfl,rfl⟩))
 refine bodyPost_ret (v:=.tuple #[.agg #[.bool false,.int .u64 0,.int .u64 0,.int .u64 0,.int .u64 0],.bool false]) ?_ rfl ⟨rfl,zb1⟩
 simp [results,Tryd.results75,go_sem]):p:=h
end Go.Proofs.YtfondldmmcmloaaDoor
namespace Go.Proofs.YtfondldmmcmloaaDoor
open Go.RowKit
theorem Shl_one (m:Nat) (hm:m < 18446744073709551616) (k:Int) (w:World) (hk0 : -9223372036854775808≤k) (hk1:k < 9223372036854775808) :
  Calls Tryd.prog 82 #[.agg #[.int .u64 (m:Int),.int .u64 0,.int .u64 0,.int .u64 0],.int .i64 k] w fun e w'=>e=.returned (.tuple #[.agg #[.int .u64 (lm (shlV m k) 0:Nat),.int .u64 (lm (shlV m k) 1:Nat),.int .u64 (lm (shlV m k) 2:Nat),.int .u64 (lm (shlV m k) 3:Nat)],.bool (shlOk m k)])∧Below w.heap.size w w':=by
 have h:=Shl_any m 0 0 0 hm z0g z0g z0g k w hk0 hk1
 rw [of4_0] at h
 exact h
theorem Whole_no (b:Nat) (hb:b < 18446744073709551616) (w:World) (hT:Tab w) (h:fin b=false∨pk b < 0) :
  Calls Tryd.prog 75 #[.int .u64 b] w fun e w'=>e=.returned (.tuple #[.agg #[.bool false,.int .u64 0,.int .u64 0,.int .u64 0,.int .u64 0],.bool false])∧Below w.heap.size w w':=by
 have hT1:=hT.alloc
 rcases h with h|h
 ·exact z5zk3
 ·cases hf:fin b
  ·exact z5zk3
  ·exact z5zk3
theorem Whole_no2 (b:Nat) (hb:b < 18446744073709551616) (w:World) (hT:Tab w) (hf:fin b=true) (hk:0≤pk b) (hs:shlOk (pm b) (pk b)=false) :
  Calls Tryd.prog 75 #[.int .u64 b] w fun e w'=>e=.returned (.tuple #[.agg #[.bool false,.int .u64 0,.int .u64 0,.int .u64 0,.int .u64 0],.bool false])∧Below w.heap.size w w':=by
 have hT1:=hT.alloc
 have hm:=pm_lt b
 have hk2:=pk_le b
 go_enter Tryd.func75,Tryd.ntmps75
 repeat any_goals (first|(go_at_call 76;refine (parts_any b hb _ (hT1 _)).mono ?_;rintro e w' ⟨rfl,rfl⟩)|(go_at_call 83;refine (Of_eq _ _).mono ?_;rintro e w' ⟨rfl,rfl⟩)|(go_at_call 82;refine (Shl_one (pm b) z0b (pk b) _ z0b z0b).mono ?_;rintro e w1 ⟨rfl,hb1⟩;have hl_w1_0:w.heap.size < w1.heap.size:=(by have h_:=(hb1).size;simp at h_;omega);have c_w1_0_0:=(hb1).cell (p:=⟨w.heap.size,0,none⟩) z0h;simp [go_sem] at c_w1_0_0;have f_w1_0_0:=(hb1).frozen (p:=⟨w.heap.size,0,none⟩) z0h;simp [go_sem] at f_w1_0_0;have c_w1_0_1:=(hb1).cell (p:=⟨w.heap.size,1,none⟩) z0h;simp [go_sem] at c_w1_0_1;have f_w1_0_1:=(hb1).frozen (p:=⟨w.heap.size,1,none⟩) z0h;simp [go_sem] at f_w1_0_1;have c_w1_0_2:=(hb1).cell (p:=⟨w.heap.size,2,none⟩) z0h;simp [go_sem] at c_w1_0_2;have f_w1_0_2:=(hb1).frozen (p:=⟨w.heap.size,2,none⟩) z0h;simp [go_sem] at f_w1_0_2;have c_w1_0_3:=(hb1).cell (p:=⟨w.heap.size,3,none⟩) z0h;simp [go_sem] at c_w1_0_3;have f_w1_0_3:=(hb1).frozen (p:=⟨w.heap.size,3,none⟩) z0h;simp [go_sem] at f_w1_0_3;have c_w1_0_4:=(hb1).cell (p:=⟨w.heap.size,4,none⟩) z0h;simp [go_sem] at c_w1_0_4;have f_w1_0_4:=(hb1).frozen (p:=⟨w.heap.size,4,none⟩) z0h;simp [go_sem] at f_w1_0_4)|go_skip|go_guarded|go_step|go_upon|(dsimp only []))
 refine bodyPost_ret (v:=.tuple #[.agg #[.bool false,.int .u64 0,.int .u64 0,.int .u64 0,.int .u64 0],.bool false]) ?_ rfl ⟨rfl,zb1⟩
 simp [results,Tryd.results75,go_sem,hl_w1_0,c_w1_0_0,c_w1_0_1,c_w1_0_2,c_w1_0_3,c_w1_0_4]
theorem Whole_yes (b:Nat) (hb:b < 18446744073709551616) (w:World) (hT:Tab w) (hf:fin b=true) (hk:0≤pk b) (hs:shlOk (pm b) (pk b)=true) :
  Calls Tryd.prog 75 #[.int .u64 b] w fun e w'=>e=.returned (.tuple #[.agg #[.bool (whN b ),.int .u64 (lm ( shlV (pm b) (pk b)) 0:Nat),.int .u64 (lm ( shlV (pm b) (pk b)) 1:Nat),.int .u64 (lm ( shlV (pm b) (pk b)) 2:Nat),.int .u64 (lm ( shlV (pm b) (pk b)) 3:Nat)],.bool true])∧Below w.heap.size w w':=by
 have hT1:=hT.alloc
 have hm:=pm_lt b
 have hk2:=pk_le b
 have hn:whN b=(decide (b / 9223372036854775808=1) && decide (0 < pm b)):=by simp [whN,whk,hf,hk,hs];rfl
 have HN:=Lib.hid hn
 clear hn
 by_cases g:(b:Int) / 9223372036854775808=1
 ·have HG:=Lib.hid (show b / 9223372036854775808=1 by omega)
  exact z5zk2
 ·have HG:=Lib.hid (show ¬ b / 9223372036854775808=1 by omega)
  exact z5zk2
theorem Whole_any (b:Nat) (hb:b < 18446744073709551616) (w:World) (hT:Tab w) :
  Calls Tryd.prog 75 #[.int .u64 b] w fun e w'=>e=.returned (.tuple #[.agg #[.bool (whN b ),.int .u64 (lm ( whV b) 0:Nat),.int .u64 (lm ( whV b) 1:Nat),.int .u64 (lm ( whV b) 2:Nat),.int .u64 (lm ( whV b) 3:Nat)],.bool (whk b)])∧Below w.heap.size w w':=by
 by_cases h1:fin b=false∨pk b < 0
 ·have hk:whk b=false:=by
   unfold whk
   rcases h1 with h|h
   ·simp [h]
   ·have:¬ 0≤pk b:=by omega
    simp [this]
  refine (Whole_no b hb w hT h1).mono ?_
  rintro e w' ⟨rfl,hb⟩
  exact ⟨by simp [whN,whV,hk,lm_zero],hb⟩
 ·have hf:fin b=true:=by
   cases h:fin b
   ·exact absurd (Or.inl h) h1
   ·rfl
  have h0:0≤pk b:=by omega
  cases hs:shlOk (pm b) (pk b) with
  | false=>
   have hk:whk b=false:=by simp [whk,hs]
   refine (Whole_no2 b hb w hT hf h0 hs).mono ?_
   rintro e w' ⟨rfl,hb⟩
   exact ⟨by simp [whN,whV,hk,lm_zero],hb⟩
  | true=>
   have hk:whk b=true:=by simp [whk,hs,hf,h0]
   refine (Whole_yes b hb w hT hf h0 hs).mono ?_
   rintro e w' ⟨rfl,hb⟩
   exact ⟨by simp [whV,hk,shlV,hs],hb⟩
theorem Behind_any (b:Nat) (hb:b < 18446744073709551616) (w:World) (hT:Tab w) :
  Calls Tryd.prog 77 #[.int .u64 b] w fun e w'=>e=.returned (.int .i64 (beh b:Nat))∧w=w':=by
 have hk2:=pk_le b
 by_cases h:pk b≤0
 ·have HB:=Lib.hid (show ((beh b:Nat):Int) = -(pk b) by unfold beh;omega)
  go_enter Tryd.func77,Tryd.ntmps77
  go_wp2_with (first|(go_at_call 76;refine (parts_any b hb _ hT).mono ?_;rintro e w' ⟨rfl,rfl⟩))
  go_ret
  simp [HB.out]
  omega
 ·have HB:=Lib.hid (show ((beh b:Nat):Int)=0 by unfold beh;omega)
  go_enter Tryd.func77,Tryd.ntmps77
  go_wp2_with (first|(go_at_call 76;refine (parts_any b hb _ hT).mono ?_;rintro e w' ⟨rfl,rfl⟩))
  go_ret
  simp [HB.out]
  omega
theorem beh_le (b:Nat):beh b≤1074:=by have:=pk_le b;unfold beh;omega
theorem cls_0 {b:Nat} (h:whk b=true):cls b=0:=by unfold cls;rw [if_pos h]
theorem cls_1 {b:Nat} (h:whk b=false) (hf:fin b=true) (h1:1≤beh b) (h2:beh b≤64):cls b=1:=by
 unfold cls;rw [if_neg (by simp [h]),if_pos hf,if_pos ⟨h1,h2⟩]
theorem cls_2 {b:Nat} (h:whk b=false) (hf:fin b=true) (h1:¬ (1≤beh b∧beh b≤64)):cls b=2:=by
 unfold cls;rw [if_neg (by simp [h]),if_pos hf,if_neg h1]
theorem cls_4 {b:Nat} (h:whk b=false) (hf:fin b=false) (h1:b=9218868437227405312):cls b=4:=by
 unfold cls;rw [if_neg (by simp [h]),if_neg (by simp [hf]),if_pos h1]
theorem cls_8 {b:Nat} (h:whk b=false) (hf:fin b=false) (h1:b=18442240474082181120):cls b=8:=by
 unfold cls;rw [if_neg (by simp [h]),if_neg (by simp [hf]),if_neg z0b,if_pos h1]
theorem cls_16 {b:Nat} (h:whk b=false) (hf:fin b=false) (h1:b≠9218868437227405312) (h2:b≠18442240474082181120):cls b=16:=by
 unfold cls;rw [if_neg (by simp [h]),if_neg (by simp [hf]),if_neg h1,if_neg h2]
theorem Class_0 (b:Nat) (hb:b < 18446744073709551616) (w:World) (hT:Tab w) (hk:whk b=true) :
  Calls Tryd.prog 72 #[.int .u64 b] w fun e w'=>e=.returned (.int .i64 0)∧Below w.heap.size w w':=by
 have hn2:=beh_le b
 exact z5zk1
theorem Class_1 (b:Nat) (hb:b < 18446744073709551616) (w:World) (hT:Tab w) (hk:whk b=false) (hf:fin b=true) (h1:1≤((beh b:Nat):Int)) (h2:((beh b:Nat):Int)≤64) :
  Calls Tryd.prog 72 #[.int .u64 b] w fun e w'=>e=.returned (.int .i64 1)∧Below w.heap.size w w':=by
 have hn2:=beh_le b
 exact z5zk1
theorem Class_2a (b:Nat) (hb:b < 18446744073709551616) (w:World) (hT:Tab w) (hk:whk b=false) (hf:fin b=true) (h1:((beh b:Nat):Int) < 1) :
  Calls Tryd.prog 72 #[.int .u64 b] w fun e w'=>e=.returned (.int .i64 2)∧Below w.heap.size w w':=by
 have hn2:=beh_le b
 exact z5zk1
theorem Class_2b (b:Nat) (hb:b < 18446744073709551616) (w:World) (hT:Tab w) (hk:whk b=false) (hf:fin b=true) (h2:64 < ((beh b:Nat):Int)) :
  Calls Tryd.prog 72 #[.int .u64 b] w fun e w'=>e=.returned (.int .i64 2)∧Below w.heap.size w w':=by
 have hn2:=beh_le b
 have h1:1≤((beh b:Nat):Int):=by omega
 exact z5zk1
theorem Class_4 (b:Nat) (hb:b < 18446744073709551616) (w:World) (hT:Tab w) (hk:whk b=false) (hf:fin b=false) (h1:(((b:Nat):Int) == 9218868437227405312)=true) :
  Calls Tryd.prog 72 #[.int .u64 b] w fun e w'=>e=.returned (.int .i64 4)∧Below w.heap.size w w':=by
 have hn2:=beh_le b
 exact z5zk1
theorem Class_8 (b:Nat) (hb:b < 18446744073709551616) (w:World) (hT:Tab w) (hk:whk b=false) (hf:fin b=false) (h1:(((b:Nat):Int) == 9218868437227405312)=false) (h2:(((b:Nat):Int) == 18442240474082181120)=true) :
  Calls Tryd.prog 72 #[.int .u64 b] w fun e w'=>e=.returned (.int .i64 8)∧Below w.heap.size w w':=by
 have hn2:=beh_le b
 exact z5zk1
theorem Class_16 (b:Nat) (hb:b < 18446744073709551616) (w:World) (hT:Tab w) (hk:whk b=false) (hf:fin b=false) (h1:(((b:Nat):Int) == 9218868437227405312)=false) (h2:(((b:Nat):Int) == 18442240474082181120)=false) :
  Calls Tryd.prog 72 #[.int .u64 b] w fun e w'=>e=.returned (.int .i64 16)∧Below w.heap.size w w':=by
 have hn2:=beh_le b
 exact z5zk1
theorem Class_any (b:Nat) (hb:b < 18446744073709551616) (w:World) (hT:Tab w) :
  Calls Tryd.prog 72 #[.int .u64 b] w fun e w'=>e=.returned (.int .i64 (cls b))∧Below w.heap.size w w':=by
 cases hk:whk b with
 | true=>rw [cls_0 hk];exact Class_0 b hb w hT hk
 | false=>
  cases hf:fin b with
  | true=>
   by_cases h1:1≤beh b
   ·by_cases h2:beh b≤64
    ·rw [cls_1 hk hf h1 h2];exact Class_1 b hb w hT hk hf z0b z0b
    ·rw [cls_2 hk hf z0b];exact Class_2b b hb w hT hk hf z0b
   ·rw [cls_2 hk hf z0b];exact Class_2a b hb w hT hk hf z0b
  | false=>
   by_cases h1:b=9218868437227405312
   ·rw [cls_4 hk hf h1];exact Class_4 b hb w hT hk hf (by simp;omega)
   ·by_cases h2:b=18442240474082181120
    ·rw [cls_8 hk hf h2];exact Class_8 b hb w hT hk hf (by simp;omega) (by simp;omega)
    ·rw [cls_16 hk hf h1 h2];exact Class_16 b hb w hT hk hf (by simp;omega) (by simp;omega)
/-- **May.** -/
theorem MayF_any (b:Nat) (hb:b < 18446744073709551616) (w:World) (hT:Tab w) :
  Calls Tryd.prog 60 #[.int .u64 b] w fun e w'=>e=.returned (.bool (mayF b))∧Below w.heap.size w w':=by
 have HM:=Lib.hid (show mayF b=(cls b != 0 && (cls b != 16 || ((b:Nat):Int) == 9221120237041090560)) by
  unfold mayF;congr 2;simp only [Bool.beq_eq_decide_eq,decide_eq_decide];omega)
 by_cases h0:(cls b != 0)=true
 ·by_cases h1:(cls b != 16)=true
  ·go_enter Tryd.func60,Tryd.ntmps60
   repeat any_goals (first|(go_at_call 72;refine (Class_any b hb _ hT).mono ?_;rintro e w1 ⟨rfl,hb1⟩)|go_skip|go_guarded|go_step|go_upon|(dsimp only []))
   go_ret
   exact ⟨by simp [HM.out,h0,h1],zb2⟩
  ·have h1':(cls b != 16)=false:=by simpa using h1
   clear h1
   go_enter Tryd.func60,Tryd.ntmps60
   repeat any_goals (first|(go_at_call 72;refine (Class_any b hb _ hT).mono ?_;rintro e w1 ⟨rfl,hb1⟩)|go_skip|go_guarded|go_step|go_upon|(dsimp only []))
   go_ret
   exact ⟨by simp [HM.out,h0,h1'],zb2⟩
 ·have h0':(cls b != 0)=false:=by simpa using h0
  clear h0
  go_enter Tryd.func60,Tryd.ntmps60
  repeat any_goals (first|(go_at_call 72;refine (Class_any b hb _ hT).mono ?_;rintro e w1 ⟨rfl,hb1⟩)|go_skip|go_guarded|go_step|go_upon|(dsimp only []))
  go_ret
  exact ⟨by simp [HM.out,h0'],zb2⟩
def cmpV (A B:Nat):Int:=if A < B then -1 else if B < A then 1 else 0
theorem top_limb (A i:Nat):A / 2 ^ (64 * i)=A / 2 ^ (64 * (i+1)) * 18446744073709551616+lm A i:=by
 unfold lm
 rw [show 64 * (i+1)=64 * i+64 from by omega,Nat.pow_add,← Nat.div_div_eq_div_mul,show (2:Nat) ^ 64=18446744073709551616 from by decide]
 exact (Nat.div_add_mod' _ _).symm
theorem lt_of_top {A B k:Nat} (h:A / k < B / k):A < B:=by
 apply Nat.lt_of_not_le
 intro h2
 have:=Nat.div_le_div_right (c:=k) h2
 omega
theorem cmp_lt {A B i:Nat} (h:A / 2 ^ (64 * (i+1))=B / 2 ^ (64 * (i+1))) (hl:lm A i < lm B i):cmpV A B = -1:=by
 have:A < B:=lt_of_top (k:=2 ^ (64 * i)) (by rw [top_limb A,top_limb B,h];omega)
 unfold cmpV
 rw [if_pos this]
theorem cmp_gt {A B i:Nat} (h:A / 2 ^ (64 * (i+1))=B / 2 ^ (64 * (i+1))) (hl:lm B i < lm A i):cmpV A B=1:=by
 have:B < A:=lt_of_top (k:=2 ^ (64 * i)) (by rw [top_limb A,top_limb B,h];omega)
 unfold cmpV
 rw [if_neg z0b,if_pos this]
theorem cmp_same {A B:Nat} (h:A / 2 ^ (64 * 0)=B / 2 ^ (64 * 0)):cmpV A B=0:=by
 rw [Nat.mul_zero,Nat.pow_zero,Nat.div_one,Nat.div_one] at h
 subst h
 unfold cmpV
 rw [if_neg (Nat.lt_irrefl _),if_neg (Nat.lt_irrefl _)]
structure CmpI (w wr:World) (A B:Nat):Prop where
 a:∀ j,j < 4→wr.cell? ⟨w.heap.size,j,none⟩=some (.int .u64 (lm A j:Nat))
 c:∀ j,j < 4→wr.cell? ⟨w.heap.size+1,j,none⟩=some (.int .u64 (lm B j:Nat))
 b:Below w.heap.size w wr
theorem cmpI_new {w:World} {A B:Nat} {t t2:TypeId}:CmpI w ((w.alloc (.cells #[.int .u64 (lm A 0:Nat),.int .u64 (lm A 1:Nat),.int .u64 (lm A 2:Nat),.int .u64 (lm A 3:Nat)] t)).alloc (.cells #[.int .u64 (lm B 0:Nat),.int .u64 (lm B 1:Nat),.int .u64 (lm B 2:Nat),.int .u64 (lm B 3:Nat)] t2)) A B:=by
 refine ⟨?_,?_,?_⟩
 ·intro j hj
  match j,hj with
  | 0,_=>simp [go_sem]
  | 1,_=>simp [go_sem]
  | 2,_=>simp [go_sem]
  | 3,_=>simp [go_sem]
 ·intro j hj
  match j,hj with
  | 0,_=>simp [go_sem]
  | 1,_=>simp [go_sem]
  | 2,_=>simp [go_sem]
  | 3,_=>simp [go_sem]
 ·exact zb2
theorem CmpI.drew {w wr:World} {A B:Nat} (h:CmpI w wr A B):CmpI w wr.drew A B:=⟨h.a,h.c,h.b.drew⟩
/-- **Cmp.** -/
theorem CmpN_any (A B:Nat) (hA:A < 2 ^ 256) (hB:B < 2 ^ 256) (w:World) :
  Calls Tryd.prog 89 #[.agg #[.int .u64 (lm (A) 0:Nat),.int .u64 (lm (A) 1:Nat),.int .u64 (lm (A) 2:Nat),.int .u64 (lm (A) 3:Nat)],.agg #[.int .u64 (lm (B) 0:Nat),.int .u64 (lm (B) 1:Nat),.int .u64 (lm (B) 2:Nat),.int .u64 (lm (B) 3:Nat)]] w fun e w'=>e=.returned (.int .i64 (cmpV A B))∧Below w.heap.size w w':=by
 have HK:=Lib.hid (And.intro hA hB)
 obtain ⟨V,hV⟩:∃ V,V=cmpV A B:=⟨_,rfl⟩
 rw [← hV]
 have HV:=Lib.hid hV
 clear hA hB hV
 go_enter Tryd.func89,Tryd.ntmps89
 repeat any_goals (first|go_skip|go_guarded|go_step|go_upon|(simp only [];done))
 go_loopw [5] (fun i wr=>∃ m:Nat,m≤4∧i=.int .i64 ((m:Int) - 1)∧A / 2 ^ (64 * m)=B / 2 ^ (64 * m)∧CmpI w wr A B) (fun i _=>(intOf i+1).toNat)
 case atStart=>
  refine ⟨4,by omega,rfl,?_,cmpI_new⟩
  rw [Nat.div_eq_of_lt HK.out.1,Nat.div_eq_of_lt HK.out.2]
 case round=>
  obtain ⟨m,hm,rfl,ht,I⟩:=hrel
  have TH:=Lib.hid (And.intro ht I)
  clear I ht
  by_cases c0:m=0
  ·subst c0
   have e:=cmp_same TH.out.1
   rw [← HV.out] at e
   subst e
   have hW:=TH.out.2.b
   repeat any_goals (first|go_skip|go_guarded|go_step|go_upon|(simp only [];done))
   exact bodyPost_ret (v:=.int .i64 0) (by simp [results,Tryd.results89,go_sem]) rfl ⟨rfl,hW⟩
  ·obtain ⟨i,rfl⟩:∃ i,m=i+1:=⟨m - 1,by omega⟩
   have i4:i < 4:=by omega
   rw [show ((i+1:Nat):Int) - 1=(i:Int) from by omega]
   have ca:=TH.out.2.a i i4
   have cb:=TH.out.2.c i i4
   obtain ⟨x,hx⟩:∃ x,x=lm A i:=⟨_,rfl⟩
   obtain ⟨y,hy⟩:∃ x,x=lm B i:=⟨_,rfl⟩
   rw [← hx] at ca
   rw [← hy] at cb
   have i1:(i:Int) < 4:=by omega
   have i2:(0:Int)≤(i:Int):=by omega
   have i5:(i:Int).toNat=i:=rfl
   have G:=Lib.hid (And.intro hx hy)
   have hW:=TH.out.2.b
   have hW1:=hW.drew
   have hW2:=hW1.drew
   clear hx hy c0 hm i4
   by_cases c1:x < y
   ·have c1i:(x:Int) < (y:Int):=by omega
    have e:=cmp_lt TH.out.1 (by rw [← G.out.1,← G.out.2];exact c1)
    rw [← HV.out] at e
    subst e
    repeat any_goals (first|go_skip|go_guarded|go_step|go_upon|(simp only [];done))
    go_region
    repeat any_goals (first|go_skip|go_guarded|go_step|go_upon|(simp only [];done))
    exact bodyPost_ret (v:=.int .i64 (-1)) (by simp [results,Tryd.results89,go_sem]) rfl ⟨rfl,hW1⟩
   ·by_cases c2:y < x
    ·have c1i:¬ (x:Int) < (y:Int):=by omega
     have c2i:(y:Int) < (x:Int):=by omega
     have e:=cmp_gt TH.out.1 (by rw [← G.out.1,← G.out.2];exact c2)
     rw [← HV.out] at e
     subst e
     repeat any_goals (first|go_skip|go_guarded|go_step|go_upon|(simp only [];done))
     go_region
     repeat any_goals (first|go_skip|go_guarded|go_step|go_upon|(simp only [];done))
     go_region
     repeat any_goals (first|go_skip|go_guarded|go_step|go_upon|(simp only [];done))
     exact bodyPost_ret (v:=.int .i64 1) (by simp [results,Tryd.results89,go_sem]) rfl ⟨rfl,hW2⟩
    ·have c1i:¬ (x:Int) < (y:Int):=by omega
     have c2i:¬ (y:Int) < (x:Int):=by omega
     have e:A / 2 ^ (64 * i)=B / 2 ^ (64 * i):=by
      rw [top_limb A,top_limb B,TH.out.1,← G.out.1,← G.out.2,show x=y from by omega]
     have E:=Lib.hid e
     clear e c1 c2
     repeat any_goals (first|go_skip|go_guarded|go_step|go_upon|(simp only [];done))
     go_region
     repeat any_goals (first|go_skip|go_guarded|go_step|go_upon|(simp only [];done))
     go_region
     repeat any_goals (first|go_skip|go_guarded|go_step|go_upon|(simp only [];done))
     go_roundw
     case rel=>exact ⟨i,by omega,by go_num,E.out,TH.out.2.drew.drew⟩
     case measure=>simp [intOf]
end Go.Proofs.YtfondldmmcmloaaDoor
