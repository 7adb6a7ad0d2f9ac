/- FlC, Cmp6. -/
import Derived.Test.YtfondldmmcmloaaGreatDoorPb5
set_option maxRecDepth 1000000
set_option maxHeartbeats 8000000
namespace Go.Proofs.YtfondldmmcmloaaGreatDoor
open Go Go.RowKit
theorem z6zk1 {p:Prop} (h:p:=by
 go_enter Tryz.func92,Tryz.ntmps92
 repeat any_goals (first|(go_at_call 99;refine (Whole_any b hb _ hT).mono ?_;rintro e w1 ⟨rfl,hb1⟩)|(go_at_call 100;refine (parts_any b hb _ ((hT.below hb1).alloc _)).mono ?_;rintro e w' ⟨rfl,rfl⟩)|(go_at_call 101;refine (Behind_any b hb _ ((hT.below hb1).alloc _)).mono ?_;rintro e w' ⟨rfl,rfl⟩)|go_skip|go_guarded|go_step|go_upon|(dsimp only []))
 go_ret
 exact ⟨by simp,zb2⟩):p:=h
end Go.Proofs.YtfondldmmcmloaaGreatDoor
namespace Go.Proofs.YtfondldmmcmloaaGreatDoor
open Go.RowKit
theorem Behind_any (b:Nat) (hb:b < 18446744073709551616) (w:World) (hT:Tab w) :
  Calls Tryz.prog 101 #[.int .u64 b] w fun e w'=>e=.returned (.int .i64 (beh b:Nat))∧w=w':=by
 have hk2:=pk_le b
 by_cases h:pk b≤0
 ·have HB:=Lib.hid (show ((beh b:Nat):Int) = -(pk b) by unfold beh;omega)
  go_enter Tryz.func101,Tryz.ntmps101
  go_wp2_with (first|(go_at_call 100;refine (parts_any b hb _ hT).mono ?_;rintro e w' ⟨rfl,rfl⟩))
  go_ret
  simp [HB.out]
  omega
 ·have HB:=Lib.hid (show ((beh b:Nat):Int)=0 by unfold beh;omega)
  go_enter Tryz.func101,Tryz.ntmps101
  go_wp2_with (first|(go_at_call 100;refine (parts_any b hb _ hT).mono ?_;rintro e w' ⟨rfl,rfl⟩))
  go_ret
  simp [HB.out]
  omega
theorem beh_le (b:Nat):beh b≤1074:=by have:=pk_le b;unfold beh;omega
theorem cls_0 {b:Nat} (h:whk b=true):cls b=0:=by unfold cls;rw [if_pos h]
theorem cls_1 {b:Nat} (h:whk b=false) (hf:fin b=true) (h1:1≤beh b) (h2:beh b≤64):cls b=1:=by
 unfold cls;rw [if_neg (by simp [h]),if_pos hf,if_pos ⟨h1,h2⟩]
theorem cls_2 {b:Nat} (h:whk b=false) (hf:fin b=true) (h1:¬ (1≤beh b∧beh b≤64)):cls b=2:=by
 unfold cls;rw [if_neg (by simp [h]),if_pos hf,if_neg h1]
theorem cls_4 {b:Nat} (h:whk b=false) (hf:fin b=false) (h1:b=9218868437227405312):cls b=4:=by
 unfold cls;rw [if_neg (by simp [h]),if_neg (by simp [hf]),if_pos h1]
theorem cls_8 {b:Nat} (h:whk b=false) (hf:fin b=false) (h1:b=18442240474082181120):cls b=8:=by
 unfold cls;rw [if_neg (by simp [h]),if_neg (by simp [hf]),if_neg z0c,if_pos h1]
theorem cls_16 {b:Nat} (h:whk b=false) (hf:fin b=false) (h1:b≠9218868437227405312) (h2:b≠18442240474082181120):cls b=16:=by
 unfold cls;rw [if_neg (by simp [h]),if_neg (by simp [hf]),if_neg h1,if_neg h2]
theorem Class_0 (b:Nat) (hb:b < 18446744073709551616) (w:World) (hT:Tab w) (hk:whk b=true) :
  Calls Tryz.prog 92 #[.int .u64 b] w fun e w'=>e=.returned (.int .i64 0)∧Below w.heap.size w w':=by
 have hn2:=beh_le b
 exact z6zk1
theorem Class_1 (b:Nat) (hb:b < 18446744073709551616) (w:World) (hT:Tab w) (hk:whk b=false) (hf:fin b=true) (h1:1≤((beh b:Nat):Int)) (h2:((beh b:Nat):Int)≤64) :
  Calls Tryz.prog 92 #[.int .u64 b] w fun e w'=>e=.returned (.int .i64 1)∧Below w.heap.size w w':=by
 have hn2:=beh_le b
 exact z6zk1
theorem Class_2a (b:Nat) (hb:b < 18446744073709551616) (w:World) (hT:Tab w) (hk:whk b=false) (hf:fin b=true) (h1:((beh b:Nat):Int) < 1) :
  Calls Tryz.prog 92 #[.int .u64 b] w fun e w'=>e=.returned (.int .i64 2)∧Below w.heap.size w w':=by
 have hn2:=beh_le b
 exact z6zk1
theorem Class_2b (b:Nat) (hb:b < 18446744073709551616) (w:World) (hT:Tab w) (hk:whk b=false) (hf:fin b=true) (h2:64 < ((beh b:Nat):Int)) :
  Calls Tryz.prog 92 #[.int .u64 b] w fun e w'=>e=.returned (.int .i64 2)∧Below w.heap.size w w':=by
 have hn2:=beh_le b
 have h1:1≤((beh b:Nat):Int):=by omega
 exact z6zk1
theorem Class_4 (b:Nat) (hb:b < 18446744073709551616) (w:World) (hT:Tab w) (hk:whk b=false) (hf:fin b=false) (h1:(((b:Nat):Int) == 9218868437227405312)=true) :
  Calls Tryz.prog 92 #[.int .u64 b] w fun e w'=>e=.returned (.int .i64 4)∧Below w.heap.size w w':=by
 have hn2:=beh_le b
 exact z6zk1
theorem Class_8 (b:Nat) (hb:b < 18446744073709551616) (w:World) (hT:Tab w) (hk:whk b=false) (hf:fin b=false) (h1:(((b:Nat):Int) == 9218868437227405312)=false) (h2:(((b:Nat):Int) == 18442240474082181120)=true) :
  Calls Tryz.prog 92 #[.int .u64 b] w fun e w'=>e=.returned (.int .i64 8)∧Below w.heap.size w w':=by
 have hn2:=beh_le b
 exact z6zk1
theorem Class_16 (b:Nat) (hb:b < 18446744073709551616) (w:World) (hT:Tab w) (hk:whk b=false) (hf:fin b=false) (h1:(((b:Nat):Int) == 9218868437227405312)=false) (h2:(((b:Nat):Int) == 18442240474082181120)=false) :
  Calls Tryz.prog 92 #[.int .u64 b] w fun e w'=>e=.returned (.int .i64 16)∧Below w.heap.size w w':=by
 have hn2:=beh_le b
 exact z6zk1
theorem Class_any (b:Nat) (hb:b < 18446744073709551616) (w:World) (hT:Tab w) :
  Calls Tryz.prog 92 #[.int .u64 b] w fun e w'=>e=.returned (.int .i64 (cls b))∧Below w.heap.size w w':=by
 cases hk:whk b with
 | true=>rw [cls_0 hk];exact Class_0 b hb w hT hk
 | false=>
  cases hf:fin b with
  | true=>
   by_cases h1:1≤beh b
   ·by_cases h2:beh b≤64
    ·rw [cls_1 hk hf h1 h2];exact Class_1 b hb w hT hk hf z0c z0c
    ·rw [cls_2 hk hf z0c];exact Class_2b b hb w hT hk hf z0c
   ·rw [cls_2 hk hf z0c];exact Class_2a b hb w hT hk hf z0c
  | false=>
   by_cases h1:b=9218868437227405312
   ·rw [cls_4 hk hf h1];exact Class_4 b hb w hT hk hf z0a1
   ·by_cases h2:b=18442240474082181120
    ·rw [cls_8 hk hf h2];exact Class_8 b hb w hT hk hf z0a1 z0a1
    ·rw [cls_16 hk hf h1 h2];exact Class_16 b hb w hT hk hf z0a1 z0a1
/-- **May.** -/
theorem MayF_any (b:Nat) (hb:b < 18446744073709551616) (w:World) (hT:Tab w) :
  Calls Tryz.prog 78 #[.int .u64 b] w fun e w'=>e=.returned (.bool (mayF b))∧Below w.heap.size w w':=by
 have HM:=Lib.hid (show mayF b=(cls b != 0 && (cls b != 16 || ((b:Nat):Int) == 9221120237041090560)) by
  unfold mayF;congr 2;simp only [Bool.beq_eq_decide_eq,decide_eq_decide];omega)
 by_cases h0:(cls b != 0)=true
 ·by_cases h1:(cls b != 16)=true
  ·go_enter Tryz.func78,Tryz.ntmps78
   repeat any_goals (first|(go_at_call 92;refine (Class_any b hb _ hT).mono ?_;rintro e w1 ⟨rfl,hb1⟩)|go_skip|go_guarded|go_step|go_upon|(dsimp only []))
   go_ret
   exact ⟨by simp [HM.out,h0,h1],zb2⟩
  ·have h1':(cls b != 16)=false:=by simpa using h1
   clear h1
   go_enter Tryz.func78,Tryz.ntmps78
   repeat any_goals (first|(go_at_call 92;refine (Class_any b hb _ hT).mono ?_;rintro e w1 ⟨rfl,hb1⟩)|go_skip|go_guarded|go_step|go_upon|(dsimp only []))
   go_ret
   exact ⟨by simp [HM.out,h0,h1'],zb2⟩
 ·have h0':(cls b != 0)=false:=by simpa using h0
  clear h0
  go_enter Tryz.func78,Tryz.ntmps78
  repeat any_goals (first|(go_at_call 92;refine (Class_any b hb _ hT).mono ?_;rintro e w1 ⟨rfl,hb1⟩)|go_skip|go_guarded|go_step|go_upon|(dsimp only []))
  go_ret
  exact ⟨by simp [HM.out,h0'],zb2⟩
def cmpV (A B:Nat):Int:=if A < B then -1 else if B < A then 1 else 0
theorem top_limb (A i:Nat):A / 2 ^ (64 * i)=A / 2 ^ (64 * (i+1)) * 18446744073709551616+lm A i:=by
 unfold lm
 rw [show 64 * (i+1)=64 * i+64 from by omega,Nat.pow_add,← Nat.div_div_eq_div_mul,show (2:Nat) ^ 64=18446744073709551616 from by decide]
 exact (Nat.div_add_mod' _ _).symm
theorem lt_of_top {A B k:Nat} (h:A / k < B / k):A < B:=by
 apply Nat.lt_of_not_le
 intro h2
 have:=Nat.div_le_div_right (c:=k) h2
 omega
theorem cmp_lt {A B i:Nat} (h:A / 2 ^ (64 * (i+1))=B / 2 ^ (64 * (i+1))) (hl:lm A i < lm B i):cmpV A B = -1:=by
 have:A < B:=lt_of_top (k:=2 ^ (64 * i)) (by rw [top_limb A,top_limb B,h];omega)
 unfold cmpV
 rw [if_pos this]
theorem cmp_gt {A B i:Nat} (h:A / 2 ^ (64 * (i+1))=B / 2 ^ (64 * (i+1))) (hl:lm B i < lm A i):cmpV A B=1:=by
 have:B < A:=lt_of_top (k:=2 ^ (64 * i)) (by rw [top_limb A,top_limb B,h];omega)
 unfold cmpV
 rw [if_neg z0c,if_pos this]
theorem cmp_same {A B:Nat} (h:A / 2 ^ (64 * 0)=B / 2 ^ (64 * 0)):cmpV A B=0:=by
 rw [Nat.mul_zero,Nat.pow_zero,Nat.div_one,Nat.div_one] at h
 subst h
 unfold cmpV
 rw [if_neg (Nat.lt_irrefl _),if_neg (Nat.lt_irrefl _)]
structure CmpI (w wr:World) (A B:Nat):Prop where
 a:∀ j,j < 4→wr.cell? ⟨w.heap.size,j,none⟩=some (.int .u64 (lm A j:Nat))
 c:∀ j,j < 4→wr.cell? ⟨w.heap.size+1,j,none⟩=some (.int .u64 (lm B j:Nat))
 b:Below w.heap.size w wr
theorem cmpI_new {w:World} {A B:Nat} {t t2:TypeId}:CmpI w ((w.alloc (.cells #[.int .u64 (lm A 0:Nat),.int .u64 (lm A 1:Nat),.int .u64 (lm A 2:Nat),.int .u64 (lm A 3:Nat)] t)).alloc (.cells #[.int .u64 (lm B 0:Nat),.int .u64 (lm B 1:Nat),.int .u64 (lm B 2:Nat),.int .u64 (lm B 3:Nat)] t2)) A B:=by
 refine ⟨?_,?_,?_⟩
 ·intro j hj
  match j,hj with
  | 0,_=>simp [go_sem]
  | 1,_=>simp [go_sem]
  | 2,_=>simp [go_sem]
  | 3,_=>simp [go_sem]
 ·intro j hj
  match j,hj with
  | 0,_=>simp [go_sem]
  | 1,_=>simp [go_sem]
  | 2,_=>simp [go_sem]
  | 3,_=>simp [go_sem]
 ·exact zb2
theorem CmpI.drew {w wr:World} {A B:Nat} (h:CmpI w wr A B):CmpI w wr.drew A B:=⟨h.a,h.c,h.b.drew⟩
/-- **Cmp.** -/
theorem CmpN_any (A B:Nat) (hA:A < 2 ^ 256) (hB:B < 2 ^ 256) (w:World) :
  Calls Tryz.prog 123 #[.agg #[.int .u64 (lm (A) 0:Nat),.int .u64 (lm (A) 1:Nat),.int .u64 (lm (A) 2:Nat),.int .u64 (lm (A) 3:Nat)],.agg #[.int .u64 (lm (B) 0:Nat),.int .u64 (lm (B) 1:Nat),.int .u64 (lm (B) 2:Nat),.int .u64 (lm (B) 3:Nat)]] w fun e w'=>e=.returned (.int .i64 (cmpV A B))∧Below w.heap.size w w':=by
 have HK:=Lib.hid (And.intro hA hB)
 obtain ⟨V,hV⟩:∃ V,V=cmpV A B:=⟨_,rfl⟩
 rw [← hV]
 have HV:=Lib.hid hV
 clear hA hB hV
 go_enter Tryz.func123,Tryz.ntmps123
 repeat any_goals (first|go_skip|go_guarded|go_step|go_upon|(simp only [];done))
 go_loopw [5] (fun i wr=>∃ m:Nat,m≤4∧i=.int .i64 ((m:Int) - 1)∧A / 2 ^ (64 * m)=B / 2 ^ (64 * m)∧CmpI w wr A B) (fun i _=>(intOf i+1).toNat)
 case atStart=>
  refine ⟨4,by omega,rfl,?_,cmpI_new⟩
  rw [Nat.div_eq_of_lt HK.out.1,Nat.div_eq_of_lt HK.out.2]
 case round=>
  obtain ⟨m,hm,rfl,ht,I⟩:=hrel
  have TH:=Lib.hid (And.intro ht I)
  clear I ht
  by_cases c0:m=0
  ·subst c0
   have e:=cmp_same TH.out.1
   rw [← HV.out] at e
   subst e
   have hW:=TH.out.2.b
   repeat any_goals (first|go_skip|go_guarded|go_step|go_upon|(simp only [];done))
   exact bodyPost_ret (v:=.int .i64 0) (by simp [results,Tryz.results123,go_sem]) rfl ⟨rfl,hW⟩
  ·obtain ⟨i,rfl⟩:∃ i,m=i+1:=⟨m - 1,by omega⟩
   have i4:i < 4:=by omega
   rw [show ((i+1:Nat):Int) - 1=(i:Int) from by omega]
   have ca:=TH.out.2.a i i4
   have cb:=TH.out.2.c i i4
   obtain ⟨x,hx⟩:∃ x,x=lm A i:=⟨_,rfl⟩
   obtain ⟨y,hy⟩:∃ x,x=lm B i:=⟨_,rfl⟩
   rw [← hx] at ca
   rw [← hy] at cb
   have i1:(i:Int) < 4:=by omega
   have i2:(0:Int)≤(i:Int):=by omega
   have i5:(i:Int).toNat=i:=rfl
   have G:=Lib.hid (And.intro hx hy)
   have hW:=TH.out.2.b
   have hW1:=hW.drew
   have hW2:=hW1.drew
   clear hx hy c0 hm i4
   by_cases c1:x < y
   ·have c1i:(x:Int) < (y:Int):=by omega
    have e:=cmp_lt TH.out.1 (by rw [← G.out.1,← G.out.2];exact c1)
    rw [← HV.out] at e
    subst e
    repeat any_goals (first|go_skip|go_guarded|go_step|go_upon|(simp only [];done))
    go_region
    repeat any_goals (first|go_skip|go_guarded|go_step|go_upon|(simp only [];done))
    exact bodyPost_ret (v:=.int .i64 (-1)) (by simp [results,Tryz.results123,go_sem]) rfl ⟨rfl,hW1⟩
   ·by_cases c2:y < x
    ·have c1i:¬ (x:Int) < (y:Int):=by omega
     have c2i:(y:Int) < (x:Int):=by omega
     have e:=cmp_gt TH.out.1 (by rw [← G.out.1,← G.out.2];exact c2)
     rw [← HV.out] at e
     subst e
     repeat any_goals (first|go_skip|go_guarded|go_step|go_upon|(simp only [];done))
     go_region
     repeat any_goals (first|go_skip|go_guarded|go_step|go_upon|(simp only [];done))
     go_region
     repeat any_goals (first|go_skip|go_guarded|go_step|go_upon|(simp only [];done))
     exact bodyPost_ret (v:=.int .i64 1) (by simp [results,Tryz.results123,go_sem]) rfl ⟨rfl,hW2⟩
    ·have c1i:¬ (x:Int) < (y:Int):=by omega
     have c2i:¬ (y:Int) < (x:Int):=by omega
     have e:A / 2 ^ (64 * i)=B / 2 ^ (64 * i):=by
      rw [top_limb A,top_limb B,TH.out.1,← G.out.1,← G.out.2,show x=y from by omega]
     have E:=Lib.hid e
     clear e c1 c2
     repeat any_goals (first|go_skip|go_guarded|go_step|go_upon|(simp only [];done))
     go_region
     repeat any_goals (first|go_skip|go_guarded|go_step|go_upon|(simp only [];done))
     go_region
     repeat any_goals (first|go_skip|go_guarded|go_step|go_upon|(simp only [];done))
     go_roundw
     case rel=>exact ⟨i,by omega,by go_num,E.out,TH.out.2.drew.drew⟩
     case measure=>simp [intOf]
end Go.Proofs.YtfondldmmcmloaaGreatDoor
