/- Wh6. -/
import Derived.Test.YtfondldmmcmloaaDoorPd5
set_option maxRecDepth 1000000
set_option maxHeartbeats 8000000
namespace Go.Proofs.YtfondldmmcmloaaDoor
open Go Go.RowKit
theorem z6zs1 {p q:Prop} (h:q) (e:q→p:=by intro hq;simp only [Act.put,List.setIfInBounds_toArray,List.set_cons_zero,List.set_cons_succ];exact hq):p:=e h
theorem z6zk1 {p:Prop} (h:p:=by
 go_enter Tryd.func87,Tryd.ntmps87
 repeat any_goals (first|(go_at_call 83;with_reducible refine (C.out _).mono ?_;rintro e w1 ⟨rfl,hb1⟩;(first|have z1:=Lib.hid (zi_hb1 hb1)|have z1:=Lib.hid (zi_hb hb1));obtain ⟨_,_,_,_,_⟩:=z1.out.all)|(go_at_call 91;with_reducible refine (D.out _).mono ?_;rintro e w2 ⟨rfl,hb2⟩;(first|have z2:=Lib.hid (z1.out.below hb2)|have z2:=Lib.hid (z1.out.step hb2)|have z2:=Lib.hid (z1.out.step2 hb2));obtain ⟨_,_,_,_,_⟩:=z2.out.all)|go_skip|go_guarded|go_step|go_upon|(dsimp only []))
 refine bodyPost_ret (v:=.agg #[.bool (s ),.int .u64 (lm ( u) 0:Nat),.int .u64 (lm ( u) 1:Nat),.int .u64 (lm ( u) 2:Nat),.int .u64 (lm ( u) 3:Nat)]) ?_ rfl ⟨rfl,zb2⟩
 simp [results,Tryd.results87,go_sem, *]):p:=h
theorem z6zk2 {p:Prop} (h:p:=by
 go_big_quiet_on
 repeat (first|go_big_quiet_skip|(refine wpQuiet_skip (by rfl) ?_;refine z6zs1 ?_)|(go_big_quiet_want;go_big_quiet_op;go_big_quiet_on))

 refine wpQuiet_nil ?_
 intro w2 hw2
 rw [HC.out] at hw2
 repeat any_goals (first|go_skip|go_guarded|go_step|go_upon|(simp only [];done))
 go_ret
 exact ⟨by simp,below_trans hBW hw2.b⟩):p:=h
theorem z6zk3 {p:Prop} (h:p:=by
 rw [HC.out] at hw1
 obtain ⟨d0,d1,d2,d3,d4,_,_,_⟩:=hw1
 simp [Oper.quietAt,go_sem,d1,d2,d3,d4]):p:=h
theorem z6zk4 {p:Prop} (h:p:=by
 rw [HC.out] at hw1
 refine (M.out w1).mono ?_
 rintro e w2 ⟨rfl,hb⟩
 refine ⟨rfl,?_⟩
 rw [HC.out]
 exact hw1.below hb):p:=h
theorem z6zk5 {p:Prop} (h:p:=by
 rw [HC.out] at hw1
 obtain ⟨d0,d1,d2,d3,d4,_,_,_⟩:=hw1
 simp [Oper.quietAt,go_sem,d0,d1,d2,d3,d4]):p:=h
end Go.Proofs.YtfondldmmcmloaaDoor
namespace Go.Proofs.YtfondldmmcmloaaDoor
open Go.RowKit
theorem set_other {w:World} {p q:Addr} {v:Value} (h:p≠q):(w.setCell p v).cell? q=w.cell? q:=World.cell?_setCell_other _ _ _ _ h
structure Box (w':World) (B V:Nat):Prop where
 c0:w'.cell? ⟨B,0,none⟩=some (.int .u64 (lm V 0:Nat))
 c1:w'.cell? ⟨B,1,none⟩=some (.int .u64 (lm V 1:Nat))
 c2:w'.cell? ⟨B,2,none⟩=some (.int .u64 (lm V 2:Nat))
 c3:w'.cell? ⟨B,3,none⟩=some (.int .u64 (lm V 3:Nat))
 l:B < w'.heap.size
theorem Box.below {B V:Nat} {w1 w2:World} (h:Box w1 B V) (hb:Below w1.heap.size w1 w2):Box w2 B V:=
 ⟨by rw [hb.cell (p:=⟨B,0,none⟩) h.l];exact h.c0,by rw [hb.cell (p:=⟨B,1,none⟩) h.l];exact h.c1,by rw [hb.cell (p:=⟨B,2,none⟩) h.l];exact h.c2,by rw [hb.cell (p:=⟨B,3,none⟩) h.l];exact h.c3,Nat.lt_of_lt_of_le h.l hb.size⟩
theorem Box.alloc {B V:Nat} {w1:World} (h:Box w1 B V) (o:Obj):Box (w1.alloc o) B V:=h.below (below_alloc (Below.refl _ _) _)
theorem Box.step {B V:Nat} {w1 w2:World} {o:Obj} (h:Box w1 B V) (hb:Below (w1.alloc o).heap.size (w1.alloc o) w2):Box w2 B V:=(h.alloc o).below hb
theorem Box.drew {B V:Nat} {w1:World} (h:Box w1 B V):Box w1.drew B V:=h.below (Below.refl _ _).drew
theorem Box.all {B V:Nat} {w1:World} (h:Box w1 B V):w1.cell? ⟨B,0,none⟩=some (.int .u64 (lm V 0:Nat))∧w1.cell? ⟨B,1,none⟩=some (.int .u64 (lm V 1:Nat))∧w1.cell? ⟨B,2,none⟩=some (.int .u64 (lm V 2:Nat))∧w1.cell? ⟨B,3,none⟩=some (.int .u64 (lm V 3:Nat))∧B < w1.heap.size:=
 ⟨h.c0,h.c1,h.c2,h.c3,h.l⟩
structure BoxF (w':World) (B V:Nat):Prop where
 b:Box w' B V
 f0:w'.frozen? ⟨B,0,none⟩=false
 f1:w'.frozen? ⟨B,1,none⟩=false
 f2:w'.frozen? ⟨B,2,none⟩=false
 f3:w'.frozen? ⟨B,3,none⟩=false
theorem BoxF.below {B V:Nat} {w1 w2:World} (h:BoxF w1 B V) (hb:Below w1.heap.size w1 w2):BoxF w2 B V:=
 ⟨h.b.below hb,by rw [hb.frozen (p:=⟨B,0,none⟩) h.b.l];exact h.f0,by rw [hb.frozen (p:=⟨B,1,none⟩) h.b.l];exact h.f1,by rw [hb.frozen (p:=⟨B,2,none⟩) h.b.l];exact h.f2,by rw [hb.frozen (p:=⟨B,3,none⟩) h.b.l];exact h.f3⟩
theorem BoxF.alloc {B V:Nat} {w1:World} (h:BoxF w1 B V) (o:Obj):BoxF (w1.alloc o) B V:=h.below (below_alloc (Below.refl _ _) _)
theorem BoxF.step {B V:Nat} {w1 w2:World} {o:Obj} (h:BoxF w1 B V) (hb:Below (w1.alloc o).heap.size (w1.alloc o) w2):BoxF w2 B V:=(h.alloc o).below hb
theorem BoxF.all {B V:Nat} {w1:World} (h:BoxF w1 B V):w1.cell? ⟨B,0,none⟩=some (.int .u64 (lm V 0:Nat))∧w1.cell? ⟨B,1,none⟩=some (.int .u64 (lm V 1:Nat))∧w1.cell? ⟨B,2,none⟩=some (.int .u64 (lm V 2:Nat))∧w1.cell? ⟨B,3,none⟩=some (.int .u64 (lm V 3:Nat))∧(B < w1.heap.size∧w1.frozen? ⟨B,0,none⟩=false∧w1.frozen? ⟨B,1,none⟩=false∧w1.frozen? ⟨B,2,none⟩=false∧w1.frozen? ⟨B,3,none⟩=false):=
 ⟨h.b.c0,h.b.c1,h.b.c2,h.b.c3,h.b.l,h.f0,h.f1,h.f2,h.f3⟩
theorem BoxF.set {B U V:Nat} {wr:World} (h:BoxF wr B U):BoxF ((((wr.setCell ⟨B,0,none⟩ (.int .u64 (lm V 0:Nat))).setCell ⟨B,1,none⟩ (.int .u64 (lm V 1:Nat))).setCell ⟨B,2,none⟩ (.int .u64 (lm V 2:Nat))).setCell ⟨B,3,none⟩ (.int .u64 (lm V 3:Nat))) B V:=by
 refine ⟨⟨?_,?_,?_,?_,?_⟩,?_,?_,?_,?_⟩
 ·rw [set_other z0c,set_other z0c,set_other z0c,World.cell?_setCell_same _ _ _ h.b.c0]
 ·rw [set_other z0c,set_other z0c,World.cell?_setCell_same _ _ _ (by rw [set_other z0c];exact h.b.c1)]
 ·rw [set_other z0c,World.cell?_setCell_same _ _ _ (by rw [set_other z0c,set_other z0c];exact h.b.c2)]
 ·rw [World.cell?_setCell_same _ _ _ (by rw [set_other z0c,set_other z0c,set_other z0c];exact h.b.c3)]
 ·simpa using h.b.l
 ·simp only [World.frozen?_setCell];exact h.f0
 ·simp only [World.frozen?_setCell];exact h.f1
 ·simp only [World.frozen?_setCell];exact h.f2
 ·simp only [World.frozen?_setCell];exact h.f3
theorem Box.other {B k U:Nat} {wr:World} {v0 v1 v2 v3:Value} (h:Box wr B U) (hk:B≠k):Box ((((wr.setCell ⟨k,0,none⟩ v0).setCell ⟨k,1,none⟩ v1).setCell ⟨k,2,none⟩ v2).setCell ⟨k,3,none⟩ v3) B U:=by
 have hn:∀ i j:Nat,(⟨k,i,none⟩:Addr)≠⟨B,j,none⟩:=fun i j e=>by
  injection e with e1 _ _
  omega
 have hn2:∀ i j:Nat,(⟨B,j,none⟩:Addr)≠⟨k,i,none⟩:=fun i j e=>by
  injection e with e1 _ _
  omega
 refine ⟨?_,?_,?_,?_,by simpa using h.l⟩
 ·rw [set_other z0m,set_other z0m,set_other z0m,set_other z0m];exact h.c0
 ·rw [set_other z0m,set_other z0m,set_other z0m,set_other z0m];exact h.c1
 ·rw [set_other z0m,set_other z0m,set_other z0m,set_other z0m];exact h.c2
 ·rw [set_other z0m,set_other z0m,set_other z0m,set_other z0m];exact h.c3
structure ZB (w':World) (B:Nat):Prop where
 z0:w'.cell? ⟨B,0,none⟩=some (.int .u64 0)∧w'.frozen? ⟨B,0,none⟩=false
 z1:w'.cell? ⟨B,1,none⟩=some (.int .u64 0)∧w'.frozen? ⟨B,1,none⟩=false
 z2:w'.cell? ⟨B,2,none⟩=some (.int .u64 0)∧w'.frozen? ⟨B,2,none⟩=false
 z3:w'.cell? ⟨B,3,none⟩=some (.int .u64 0)∧w'.frozen? ⟨B,3,none⟩=false
 l:B < w'.heap.size
theorem ZB.below {B:Nat} {w1 w2:World} (h:ZB w1 B) (hb:Below w1.heap.size w1 w2):ZB w2 B:=
 ⟨by rw [hb.cell (p:=⟨B,0,none⟩) h.l,hb.frozen (p:=⟨B,0,none⟩) h.l];exact h.z0,by rw [hb.cell (p:=⟨B,1,none⟩) h.l,hb.frozen (p:=⟨B,1,none⟩) h.l];exact h.z1,by rw [hb.cell (p:=⟨B,2,none⟩) h.l,hb.frozen (p:=⟨B,2,none⟩) h.l];exact h.z2,by rw [hb.cell (p:=⟨B,3,none⟩) h.l,hb.frozen (p:=⟨B,3,none⟩) h.l];exact h.z3,Nat.lt_of_lt_of_le h.l hb.size⟩
theorem ZB.all {B:Nat} {w1:World} (h:ZB w1 B):(w1.cell? ⟨B,0,none⟩=some (.int .u64 0)∧w1.cell? ⟨B,1,none⟩=some (.int .u64 0)∧w1.cell? ⟨B,2,none⟩=some (.int .u64 0)∧w1.cell? ⟨B,3,none⟩=some (.int .u64 0))∧(w1.frozen? ⟨B,0,none⟩=false∧w1.frozen? ⟨B,1,none⟩=false∧w1.frozen? ⟨B,2,none⟩=false∧w1.frozen? ⟨B,3,none⟩=false)∧B < w1.heap.size:=
 ⟨⟨h.z0.1,h.z1.1,h.z2.1,h.z3.1⟩,⟨h.z0.2,h.z1.2,h.z2.2,h.z3.2⟩,h.l⟩
theorem ZB.set {B V:Nat} {wr:World} (h:ZB wr B):Box ((((wr.setCell ⟨B,0,none⟩ (.int .u64 (lm V 0:Nat))).setCell ⟨B,1,none⟩ (.int .u64 (lm V 1:Nat))).setCell ⟨B,2,none⟩ (.int .u64 (lm V 2:Nat))).setCell ⟨B,3,none⟩ (.int .u64 (lm V 3:Nat))) B V:=by
 refine ⟨?_,?_,?_,?_,?_⟩
 ·rw [set_other z0c,set_other z0c,set_other z0c,World.cell?_setCell_same _ _ _ h.z0.1]
 ·rw [set_other z0c,set_other z0c,World.cell?_setCell_same _ _ _ (by rw [set_other z0c];exact h.z1.1)]
 ·rw [set_other z0c,World.cell?_setCell_same _ _ _ (by rw [set_other z0c,set_other z0c];exact h.z2.1)]
 ·rw [World.cell?_setCell_same _ _ _ (by rw [set_other z0c,set_other z0c,set_other z0c];exact h.z3.1)]
 ·simpa using h.l
theorem lm_small {d:Nat} (h:d < 18446744073709551616):lm d 0=d∧lm d 1=0∧lm d 2=0∧lm d 3=0:=by
 have q:=lm_of4 (a:=d) (b:=0) (c:=0) (d:=0) h z0g z0g z0g
 rw [of4_0] at q
 exact q
theorem OfV_any (d:Nat) (h:d < 18446744073709551616) (w:World) :
  Calls Tryd.prog 83 #[.int .u64 (d:Int)] w fun e w'=>e=.returned (.agg #[.int .u64 (lm (d) 0:Nat),.int .u64 (lm (d) 1:Nat),.int .u64 (lm (d) 2:Nat),.int .u64 (lm (d) 3:Nat)])∧Below w.heap.size w w':=by
 obtain ⟨q0,q1,q2,q3⟩:=lm_small h
 rw [q0,q1,q2,q3]
 exact Of_any d w
theorem len4_lm {V:Nat} (hV:V < 2 ^ 256):len4 (lm V 0) (lm V 1) (lm V 2) (lm V 3)=bl V:=by
 rw [len4_eq (lm_lt _ _) (lm_lt _ _) (lm_lt _ _) (lm_lt _ _),of4_lm V hV]
theorem tz_low {a H n:Nat} (ha:0 < a) (hn:a < 2 ^ n):tz (a+H * 2 ^ n)=tz a:=by
 obtain ⟨m,hm⟩:=tz_spec ha
 have ht:tz a < n:=Nat.lt_of_lt_of_le (tz_lt_bl ha) ((bl_le_iff a n).2 hn)
 refine tz_of (k:=tz a) (m:=m+H * 2 ^ (n - tz a - 1)) ?_
 have e:(2:Nat) ^ n=2 ^ tz a * (2 * 2 ^ (n - tz a - 1)):=by
  rw [← Nat.pow_succ',← Nat.pow_add]
  congr 1
  omega
 rw [e]
 generalize tz a=t at *
 rw [hm]
 generalize 2 ^ (n - t - 1)=B
 generalize 2 ^ t=A
 rw [Nat.mul_add 2 m,Nat.add_right_comm,Nat.mul_left_comm H A,Nat.mul_left_comm H 2,Nat.mul_add A (2 * m+1)]
theorem trail4_lm {V:Nat} (hV:V < 2 ^ 256):trail4 (lm V 0) (lm V 1) (lm V 2) (lm V 3)=if V=0 then 256 else tz V:=by
 have h4:=of4_lm V hV
 have l0:=lm_lt V 0
 have l1:=lm_lt V 1
 have l2:=lm_lt V 2
 have l3:=lm_lt V 3
 generalize lm V 0=a at *
 generalize lm V 1=b at *
 generalize lm V 2=c at *
 generalize lm V 3=d at *
 unfold of4 at h4
 unfold trail4
 by_cases ha:a=0
 ·rw [if_neg z0b]
  by_cases hb:b=0
  ·rw [if_neg z0b]
   by_cases hc:c=0
   ·rw [if_neg z0b]
    by_cases hd:d=0
    ·rw [if_neg z0b,if_pos (by subst ha hb hc hd;omega)]
    ·rw [if_pos hd,if_neg z0b]
     have e:V=d * 2 ^ 192:=by subst ha hb hc;omega
     rw [e,tz_mul_two_pow (Nat.pos_of_ne_zero hd),Nat.add_comm]
   ·rw [if_pos hc,if_neg z0b]
    have e:V=(c+d * 2 ^ 64) * 2 ^ 128:=by subst ha hb;omega
    rw [e,tz_mul_two_pow z0b,tz_low (Nat.pos_of_ne_zero hc) l2,Nat.add_comm]
  ·rw [if_pos hb,if_neg z0b]
   have e:V=(b+(c+d * 2 ^ 64) * 2 ^ 64) * 2 ^ 64:=by subst ha;omega
   rw [e,tz_mul_two_pow z0b,tz_low (Nat.pos_of_ne_zero hb) l1,Nat.add_comm]
 ·rw [if_pos ha,if_neg z0b]
  have e:V=a+(b+(c+d * 2 ^ 64) * 2 ^ 64) * 2 ^ 64:=by omega
  rw [e,tz_low (Nat.pos_of_ne_zero ha) l0]
theorem Len_lm (V:Nat) (hV:V < 2 ^ 256) (l:Nat) (hl:bl V=l) (w:World):Calls Tryd.prog 85 #[.agg #[.int .u64 (lm (V) 0:Nat),.int .u64 (lm (V) 1:Nat),.int .u64 (lm (V) 2:Nat),.int .u64 (lm (V) 3:Nat)]] w fun e w'=>e=.returned (.int .i64 (l:Nat))∧Below w.heap.size w w':=by
 have h:=Len_any _ _ _ _ (lm_lt V 0) (lm_lt V 1) (lm_lt V 2) (lm_lt V 3) w
 rw [len4_lm hV,hl] at h
 exact h
theorem Trail_lm (V:Nat) (hV:V < 2 ^ 256) (t:Nat) (ht:(if V=0 then 256 else tz V)=t) (w:World) (hT:Tab w):Calls Tryd.prog 86 #[.agg #[.int .u64 (lm (V) 0:Nat),.int .u64 (lm (V) 1:Nat),.int .u64 (lm (V) 2:Nat),.int .u64 (lm (V) 3:Nat)]] w fun e w'=>e=.returned (.int .i64 (t:Nat))∧Below w.heap.size w w':=by
 have h:=Trail_any _ _ _ _ (lm_lt V 0) (lm_lt V 1) (lm_lt V 2) (lm_lt V 3) w hT
 rw [trail4_lm hV,ht] at h
 exact h
end Go.Proofs.YtfondldmmcmloaaDoor
namespace Go.Proofs.YtfondldmmcmloaaDoor
def sg (z:Int):Bool:=decide (z < 0)
def ab (z:Int):Nat:=z.natAbs
def zI (neg:Bool) (V:Nat):Int:=if neg=true then -(V:Int) else V
def mayI (neg:Bool) (V:Nat):Bool:=!neg || V != 0
def exactI (neg:Bool) (V:Nat):Bool:=mayI neg V && (V == 0 || decide (bl V - tz V≤53))
theorem zI_false (V:Nat):zI false V=V:=rfl
theorem zI_true (V:Nat):zI true V = -(V:Int):=rfl
theorem may_true {V:Nat}:mayI true V=true↔V≠0:=by simp [mayI]
theorem sg_of (n:Bool) (V:Nat):sg (zI n V)=(n && V != 0):=by
 cases n with
 | false=>simp [zI,sg]
 | true=>
  by_cases c:V=0
  ·subst c;rfl
  ·have e:(V != 0)=true:=by simpa using c
   rw [e]
   simp [zI,sg]
   omega
def cmpZ (x y:Int):Int:=if x < y then -1 else if x=y then 0 else 1
def cmpI (n:Bool) (V:Nat) (m:Bool) (U:Nat):Int:=if (mayI n V && mayI m U)=true then cmpZ (zI n V) (zI m U) else 0
theorem cmpZ_nn (A B:Nat):cmpZ A B=cmpV A B:=by
 unfold cmpZ cmpV
 split
 ·rw [if_pos z0b]
 ·split
  ·rw [if_neg z0b,if_neg z0b]
  ·rw [if_neg z0b,if_pos z0b]
theorem cmpZ_neg (A B:Nat):cmpZ (-(A:Int)) (-(B:Int))=cmpV B A:=by
 unfold cmpZ cmpV
 split
 ·rw [if_pos z0b]
 ·split
  ·rw [if_neg z0b,if_neg z0b]
  ·rw [if_neg z0b,if_pos z0b]
def exN (V:Nat):Prop:=V=0∨bl V - tz V≤53
instance (V:Nat):Decidable (exN V):=by unfold exN;exact inferInstance
open Go.RowKit
theorem lm_nz {V:Nat} (hV:V < 2 ^ 256):(!(((lm V 0:Nat):Int) == 0 && ((lm V 1:Nat):Int) == 0 && ((lm V 2:Nat):Int) == 0 && ((lm V 3:Nat):Int) == 0))=(V != 0):=by
 by_cases c:V=0
 ·subst c
  rw [lm_zero,lm_zero,lm_zero,lm_zero]
  rfl
 ·have h:¬ (lm V 0=0∧lm V 1=0∧lm V 2=0∧lm V 3=0):=fun h=>c (lm_inj hV z0g (by rw [h.1,lm_zero]) (by rw [h.2.1,lm_zero]) (by rw [h.2.2.1,lm_zero]) (by rw [h.2.2.2,lm_zero]))
  have e:(V != 0)=true:=by simpa using c
  rw [e]
  rw [Bool.not_eq_true',← Bool.not_eq_true]
  intro h2
  simp at h2
  exact h ⟨h2.1.1.1,h2.1.1.2,h2.1.2,h2.2⟩
theorem May_any (neg:Bool) (V:Nat) (hV:V < 2 ^ 256) (w:World) :
  Calls Tryd.prog 59 #[.agg #[.bool (neg ),.int .u64 (lm ( V) 0:Nat),.int .u64 (lm ( V) 1:Nat),.int .u64 (lm ( V) 2:Nat),.int .u64 (lm ( V) 3:Nat)]] w fun e w'=>e=.returned (.bool (mayI neg V))∧Below w.heap.size w w':=by
 have HN:=Lib.hid (lm_nz hV)
 cases neg with
 | false=>
  have HM:=Lib.hid (show mayI false V=true by unfold mayI;rfl)
  go_enter Tryd.func59,Tryd.ntmps59
  repeat any_goals (first|go_skip|go_guarded|go_step|go_upon|(simp only [];done))
  go_ret
  exact ⟨by simp [HM.out],zb2⟩
 | true=>
  have HM:=Lib.hid (show mayI true V=(V != 0) by unfold mayI;rfl)
  go_enter Tryd.func59,Tryd.ntmps59
  repeat any_goals (first|go_skip|go_guarded|go_step|go_upon|(simp only [];done))
  go_ret
  exact ⟨by rw [HM.out,← HN.out];simp,zb2⟩
theorem wp_region_quiet_cls {P:Program} {C:World→Prop} {id:Nat} {Q:Exit→Act→World→Prop} {a:Act} {w:World} {l:List Oper} (hm:P.follows .mixedOrders=true) (hB:Region.lexB .any l.toArray=true) (hC:C w.drew)
  (h:wpQuiet P l.toArray C (fun a'=>∀ w',C w'→Q .normal a' w') l a):(Code.region id l.toArray true).wp P Q a w:=
 wp_region_quiet hm hB hC (by simpa using h)
structure BoxI (W:World) (B:Nat) (neg:Bool) (V:Nat) (w':World):Prop where
 c0:w'.cell? ⟨B,0,none⟩=some (.bool neg)
 c1:w'.cell? ⟨B,1,none⟩=some (.int .u64 (lm V 0:Nat))
 c2:w'.cell? ⟨B,2,none⟩=some (.int .u64 (lm V 1:Nat))
 c3:w'.cell? ⟨B,3,none⟩=some (.int .u64 (lm V 2:Nat))
 c4:w'.cell? ⟨B,4,none⟩=some (.int .u64 (lm V 3:Nat))
 t:Tab w'
 l:B < w'.heap.size
 b:Below W.heap.size W w'
theorem BoxI.below {W:World} {B:Nat} {neg:Bool} {V:Nat} {w1 w2:World} (h:BoxI W B neg V w1) (hb:Below w1.heap.size w1 w2):BoxI W B neg V w2:=
 ⟨by rw [hb.cell (p:=⟨B,0,none⟩) h.l];exact h.c0,by rw [hb.cell (p:=⟨B,1,none⟩) h.l];exact h.c1,by rw [hb.cell (p:=⟨B,2,none⟩) h.l];exact h.c2,by rw [hb.cell (p:=⟨B,3,none⟩) h.l];exact h.c3,by rw [hb.cell (p:=⟨B,4,none⟩) h.l];exact h.c4,h.t.below hb,Nat.lt_of_lt_of_le h.l hb.size,below_trans h.b hb⟩
theorem boxI_new {w:World} {neg:Bool} {V:Nat} {t:TypeId} (hT:Tab w):BoxI (w.alloc (.cells #[.bool neg,.int .u64 (lm V 0:Nat),.int .u64 (lm V 1:Nat),.int .u64 (lm V 2:Nat),.int .u64 (lm V 3:Nat)] t)) w.heap.size neg V (w.alloc (.cells #[.bool neg,.int .u64 (lm V 0:Nat),.int .u64 (lm V 1:Nat),.int .u64 (lm V 2:Nat),.int .u64 (lm V 3:Nat)] t)):=
 ⟨by simp [go_sem],by simp [go_sem],by simp [go_sem],by simp [go_sem],by simp [go_sem],hT.alloc _,by simp,Below.refl _ _⟩
theorem Exact_no (neg:Bool) (V:Nat) (w:World) (hT:Tab w) (M:Hid (∀ w:World,Calls Tryd.prog 59 #[.agg #[.bool (neg ),.int .u64 (lm ( V) 0:Nat),.int .u64 (lm ( V) 1:Nat),.int .u64 (lm ( V) 2:Nat),.int .u64 (lm ( V) 3:Nat)]] w fun e w'=>e=.returned (.bool false)∧Below w.heap.size w w'))  :
  Calls Tryd.prog 79 #[.agg #[.bool (neg ),.int .u64 (lm ( V) 0:Nat),.int .u64 (lm ( V) 1:Nat),.int .u64 (lm ( V) 2:Nat),.int .u64 (lm ( V) 3:Nat)]] w fun e w'=>e=.returned (.bool false)∧Below w.heap.size w w':=by
 go_enter Tryd.func79,Tryd.ntmps79
 repeat any_goals (first|go_skip|go_guarded|go_step|go_upon|(simp only [];done))
 have B0:=@boxI_new w neg V 31 hT
 have hBW:Below w.heap.size w (w.alloc (.cells #[.bool neg,.int .u64 (lm V 0:Nat),.int .u64 (lm V 1:Nat),.int .u64 (lm V 2:Nat),.int .u64 (lm V 3:Nat)] 31)):=zb2
 generalize w.alloc (.cells #[.bool neg,.int .u64 (lm V 0:Nat),.int .u64 (lm V 1:Nat),.int .u64 (lm V 2:Nat),.int .u64 (lm V 3:Nat)] 31)=W at *
 obtain ⟨C,hC⟩:∃ C:World→Prop,C=BoxI W w.heap.size neg V:=⟨_,rfl⟩
 have HC:=Lib.hid hC
 have hne:∀ p:Prop,(∀ w1:World,C w1→p)=p:=fun p=>propext ⟨fun h=>h W (by rw [hC];exact B0),fun h _ _=>h⟩
 clear hC
 refine wp_region_quiet_cls (C:=C) z0a z0a (by rw [HC.out];exact B0.below (Below.refl _ _).drew) ?_
 go_big_quiet_want
 refine ⟨.agg #[.bool (neg ),.int .u64 (lm ( V) 0:Nat),.int .u64 (lm ( V) 1:Nat),.int .u64 (lm ( V) 2:Nat),.int .u64 (lm ( V) 3:Nat)],fun w1 hw1=>?_,?_⟩
 ·exact z6zk5
 try simp only [Act.put,List.setIfInBounds_toArray,List.set_cons_zero,List.set_cons_succ]
 go_big_quiet_on
 go_big_quiet_want
 go_big_quiet_op
 refine ⟨.bool false,fun w1 hw1=>?_,?_⟩
 ·exact z6zk4
 exact z6zk2
theorem Exact_zero (neg:Bool) (V:Nat) (w:World) (hT:Tab w) (M:Hid (∀ w:World,Calls Tryd.prog 59 #[.agg #[.bool (neg ),.int .u64 (lm ( V) 0:Nat),.int .u64 (lm ( V) 1:Nat),.int .u64 (lm ( V) 2:Nat),.int .u64 (lm ( V) 3:Nat)]] w fun e w'=>e=.returned (.bool true)∧Below w.heap.size w w')) (h2:(((lm V 0:Nat):Int) == 0 && ((lm V 1:Nat):Int) == 0 && ((lm V 2:Nat):Int) == 0 && ((lm V 3:Nat):Int) == 0)=true) :
  Calls Tryd.prog 79 #[.agg #[.bool (neg ),.int .u64 (lm ( V) 0:Nat),.int .u64 (lm ( V) 1:Nat),.int .u64 (lm ( V) 2:Nat),.int .u64 (lm ( V) 3:Nat)]] w fun e w'=>e=.returned (.bool true)∧Below w.heap.size w w':=by
 go_enter Tryd.func79,Tryd.ntmps79
 repeat any_goals (first|go_skip|go_guarded|go_step|go_upon|(simp only [];done))
 have B0:=@boxI_new w neg V 31 hT
 have hBW:Below w.heap.size w (w.alloc (.cells #[.bool neg,.int .u64 (lm V 0:Nat),.int .u64 (lm V 1:Nat),.int .u64 (lm V 2:Nat),.int .u64 (lm V 3:Nat)] 31)):=zb2
 generalize w.alloc (.cells #[.bool neg,.int .u64 (lm V 0:Nat),.int .u64 (lm V 1:Nat),.int .u64 (lm V 2:Nat),.int .u64 (lm V 3:Nat)] 31)=W at *
 obtain ⟨C,hC⟩:∃ C:World→Prop,C=BoxI W w.heap.size neg V:=⟨_,rfl⟩
 have HC:=Lib.hid hC
 have hne:∀ p:Prop,(∀ w1:World,C w1→p)=p:=fun p=>propext ⟨fun h=>h W (by rw [hC];exact B0),fun h _ _=>h⟩
 clear hC
 refine wp_region_quiet_cls (C:=C) z0a z0a (by rw [HC.out];exact B0.below (Below.refl _ _).drew) ?_
 go_big_quiet_want
 refine ⟨.agg #[.bool (neg ),.int .u64 (lm ( V) 0:Nat),.int .u64 (lm ( V) 1:Nat),.int .u64 (lm ( V) 2:Nat),.int .u64 (lm ( V) 3:Nat)],fun w1 hw1=>?_,?_⟩
 ·exact z6zk5
 try simp only [Act.put,List.setIfInBounds_toArray,List.set_cons_zero,List.set_cons_succ]
 go_big_quiet_on
 go_big_quiet_want
 go_big_quiet_op
 refine ⟨.bool true,fun w1 hw1=>?_,?_⟩
 ·exact z6zk4
 go_big_quiet_on
 first|go_big_quiet_skip|(refine wpQuiet_skip (by rfl) ?_;refine z6zs1 ?_)|(go_big_quiet_want;go_big_quiet_op;go_big_quiet_on)
 first|go_big_quiet_skip|(refine wpQuiet_skip (by rfl) ?_;refine z6zs1 ?_)|(go_big_quiet_want;go_big_quiet_op;go_big_quiet_on)
 go_big_quiet_want
 refine ⟨.agg #[.int .u64 (lm (V) 0:Nat),.int .u64 (lm (V) 1:Nat),.int .u64 (lm (V) 2:Nat),.int .u64 (lm (V) 3:Nat)],fun w1 hw1=>?_,?_⟩
 ·exact z6zk3
 try simp only [Act.put,List.setIfInBounds_toArray,List.set_cons_zero,List.set_cons_succ]
 exact z6zk2
theorem Exact_num (neg:Bool) (V:Nat) (w:World) (hT:Tab w) (M:Hid (∀ w:World,Calls Tryd.prog 59 #[.agg #[.bool (neg ),.int .u64 (lm ( V) 0:Nat),.int .u64 (lm ( V) 1:Nat),.int .u64 (lm ( V) 2:Nat),.int .u64 (lm ( V) 3:Nat)]] w fun e w'=>e=.returned (.bool true)∧Below w.heap.size w w')) (l t:Nat) (hl:l≤256) (ht:t≤256) (x:Bool) (hx:decide ((l:Int) - (t:Int)≤53)=x) (L:Hid (∀ w:World,Calls Tryd.prog 85 #[.agg #[.int .u64 (lm (V) 0:Nat),.int .u64 (lm (V) 1:Nat),.int .u64 (lm (V) 2:Nat),.int .u64 (lm (V) 3:Nat)]] w fun e w'=>e=.returned (.int .i64 (l:Nat))∧Below w.heap.size w w')) (T:Hid (∀ w:World,Tab w→Calls Tryd.prog 86 #[.agg #[.int .u64 (lm (V) 0:Nat),.int .u64 (lm (V) 1:Nat),.int .u64 (lm (V) 2:Nat),.int .u64 (lm (V) 3:Nat)]] w fun e w'=>e=.returned (.int .i64 (t:Nat))∧Below w.heap.size w w')) (h2:(((lm V 0:Nat):Int) == 0 && ((lm V 1:Nat):Int) == 0 && ((lm V 2:Nat):Int) == 0 && ((lm V 3:Nat):Int) == 0)=false) :
  Calls Tryd.prog 79 #[.agg #[.bool (neg ),.int .u64 (lm ( V) 0:Nat),.int .u64 (lm ( V) 1:Nat),.int .u64 (lm ( V) 2:Nat),.int .u64 (lm ( V) 3:Nat)]] w fun e w'=>e=.returned (.bool x)∧Below w.heap.size w w':=by
 go_enter Tryd.func79,Tryd.ntmps79
 repeat any_goals (first|go_skip|go_guarded|go_step|go_upon|(simp only [];done))
 have B0:=@boxI_new w neg V 31 hT
 have hBW:Below w.heap.size w (w.alloc (.cells #[.bool neg,.int .u64 (lm V 0:Nat),.int .u64 (lm V 1:Nat),.int .u64 (lm V 2:Nat),.int .u64 (lm V 3:Nat)] 31)):=zb2
 generalize w.alloc (.cells #[.bool neg,.int .u64 (lm V 0:Nat),.int .u64 (lm V 1:Nat),.int .u64 (lm V 2:Nat),.int .u64 (lm V 3:Nat)] 31)=W at *
 obtain ⟨C,hC⟩:∃ C:World→Prop,C=BoxI W w.heap.size neg V:=⟨_,rfl⟩
 have HC:=Lib.hid hC
 have hne:∀ p:Prop,(∀ w1:World,C w1→p)=p:=fun p=>propext ⟨fun h=>h W (by rw [hC];exact B0),fun h _ _=>h⟩
 clear hC
 refine wp_region_quiet_cls (C:=C) z0a z0a (by rw [HC.out];exact B0.below (Below.refl _ _).drew) ?_
 go_big_quiet_want
 refine ⟨.agg #[.bool (neg ),.int .u64 (lm ( V) 0:Nat),.int .u64 (lm ( V) 1:Nat),.int .u64 (lm ( V) 2:Nat),.int .u64 (lm ( V) 3:Nat)],fun w1 hw1=>?_,?_⟩
 ·exact z6zk5
 try simp only [Act.put,List.setIfInBounds_toArray,List.set_cons_zero,List.set_cons_succ]
 go_big_quiet_on
 go_big_quiet_want
 go_big_quiet_op
 refine ⟨.bool true,fun w1 hw1=>?_,?_⟩
 ·exact z6zk4
 go_big_quiet_on
 first|go_big_quiet_skip|(refine wpQuiet_skip (by rfl) ?_;refine z6zs1 ?_)|(go_big_quiet_want;go_big_quiet_op;go_big_quiet_on)
 first|go_big_quiet_skip|(refine wpQuiet_skip (by rfl) ?_;refine z6zs1 ?_)|(go_big_quiet_want;go_big_quiet_op;go_big_quiet_on)
 go_big_quiet_want
 refine ⟨.agg #[.int .u64 (lm (V) 0:Nat),.int .u64 (lm (V) 1:Nat),.int .u64 (lm (V) 2:Nat),.int .u64 (lm (V) 3:Nat)],fun w1 hw1=>?_,?_⟩
 ·exact z6zk3
 try simp only [Act.put,List.setIfInBounds_toArray,List.set_cons_zero,List.set_cons_succ]
 go_big_quiet_on
 first|go_big_quiet_skip|(refine wpQuiet_skip (by rfl) ?_;refine z6zs1 ?_)|(go_big_quiet_want;go_big_quiet_op;go_big_quiet_on)
 first|go_big_quiet_skip|(refine wpQuiet_skip (by rfl) ?_;refine z6zs1 ?_)|(go_big_quiet_want;go_big_quiet_op;go_big_quiet_on)
 first|go_big_quiet_skip|(refine wpQuiet_skip (by rfl) ?_;refine z6zs1 ?_)|(go_big_quiet_want;go_big_quiet_op;go_big_quiet_on)
 first|go_big_quiet_skip|(refine wpQuiet_skip (by rfl) ?_;refine z6zs1 ?_)|(go_big_quiet_want;go_big_quiet_op;go_big_quiet_on)
 go_big_quiet_want
 refine ⟨.agg #[.int .u64 (lm (V) 0:Nat),.int .u64 (lm (V) 1:Nat),.int .u64 (lm (V) 2:Nat),.int .u64 (lm (V) 3:Nat)],fun w1 hw1=>?_,?_⟩
 ·exact z6zk3
 try simp only [Act.put,List.setIfInBounds_toArray,List.set_cons_zero,List.set_cons_succ]
 go_big_quiet_on
 go_big_quiet_want
 go_big_quiet_op
 refine ⟨.int .i64 (l:Nat),fun w1 hw1=>?_,?_⟩
 ·rw [HC.out] at hw1
  refine (L.out w1).mono ?_
  rintro e w2 ⟨rfl,hb⟩
  refine ⟨rfl,?_⟩
  rw [HC.out]
  exact hw1.below hb
 go_big_quiet_on
 first|go_big_quiet_skip|(refine wpQuiet_skip (by rfl) ?_;refine z6zs1 ?_)|(go_big_quiet_want;go_big_quiet_op;go_big_quiet_on)
 go_big_quiet_want
 refine ⟨.agg #[.int .u64 (lm (V) 0:Nat),.int .u64 (lm (V) 1:Nat),.int .u64 (lm (V) 2:Nat),.int .u64 (lm (V) 3:Nat)],fun w1 hw1=>?_,?_⟩
 ·exact z6zk3
 try simp only [Act.put,List.setIfInBounds_toArray,List.set_cons_zero,List.set_cons_succ]
 go_big_quiet_on
 go_big_quiet_want
 go_big_quiet_op
 refine ⟨.int .i64 (t:Nat),fun w1 hw1=>?_,?_⟩
 ·rw [HC.out] at hw1
  refine (T.out w1 hw1.t).mono ?_
  rintro e w2 ⟨rfl,hb⟩
  refine ⟨rfl,?_⟩
  rw [HC.out]
  exact hw1.below hb
 exact z6zk2
theorem Exact_any (neg:Bool) (V:Nat) (hV:V < 2 ^ 256) (w:World) (hT:Tab w) :
  Calls Tryd.prog 79 #[.agg #[.bool (neg ),.int .u64 (lm ( V) 0:Nat),.int .u64 (lm ( V) 1:Nat),.int .u64 (lm ( V) 2:Nat),.int .u64 (lm ( V) 3:Nat)]] w fun e w'=>e=.returned (.bool (exactI neg V))∧Below w.heap.size w w':=by
 have hn:=lm_nz hV
 have hM:=May_any neg V hV
 cases hm:mayI neg V with
 | false=>
  have e:exactI neg V=false:=by unfold exactI;rw [hm];rfl
  rw [hm] at hM
  rw [e]
  exact Exact_no neg V w hT (Lib.hid hM)
 | true=>
  rw [hm] at hM
  by_cases c:V=0
  ·have e:exactI neg V=true:=by unfold exactI;rw [hm,c];rfl
   rw [e]
   refine Exact_zero neg V w hT (Lib.hid hM) ?_
   have h0:(V != 0)=false:=by simpa using c
   rw [h0,Bool.not_eq_false'] at hn
   exact hn
  ·have hlt:=tz_lt_bl (Nat.pos_of_ne_zero c)
   have hbl:=(bl_le_iff V 256).2 hV
   have e:exactI neg V=decide ((bl V:Int) - (tz V:Int)≤53):=by
    unfold exactI
    rw [hm,show (V == 0)=false from by simpa using c,Bool.true_and,Bool.false_or]
    rw [decide_eq_decide]
    omega
   rw [e]
   refine Exact_num neg V w hT (Lib.hid hM) (bl V) (tz V) hbl z0b _ rfl (Lib.hid (Len_lm V hV _ rfl)) (Lib.hid (Trail_lm V hV _ (if_neg c))) ?_
   have h0:(V != 0)=true:=by simpa using c
   rw [h0,Bool.not_eq_true'] at hn
   exact hn
structure IBox (w':World) (B:Nat) (n:Bool) (V:Nat):Prop where
 c0:w'.cell? ⟨B,0,none⟩=some (.bool n)
 c1:w'.cell? ⟨B,1,none⟩=some (.int .u64 (lm V 0:Nat))
 c2:w'.cell? ⟨B,2,none⟩=some (.int .u64 (lm V 1:Nat))
 c3:w'.cell? ⟨B,3,none⟩=some (.int .u64 (lm V 2:Nat))
 c4:w'.cell? ⟨B,4,none⟩=some (.int .u64 (lm V 3:Nat))
 l:B < w'.heap.size
theorem IBox.below {B V:Nat} {n:Bool} {w1 w2:World} (h:IBox w1 B n V) (hb:Below w1.heap.size w1 w2):IBox w2 B n V:=
 ⟨by rw [hb.cell (p:=⟨B,0,none⟩) h.l];exact h.c0,by rw [hb.cell (p:=⟨B,1,none⟩) h.l];exact h.c1,by rw [hb.cell (p:=⟨B,2,none⟩) h.l];exact h.c2,by rw [hb.cell (p:=⟨B,3,none⟩) h.l];exact h.c3,by rw [hb.cell (p:=⟨B,4,none⟩) h.l];exact h.c4,Nat.lt_of_lt_of_le h.l hb.size⟩
theorem IBox.alloc {B V:Nat} {n:Bool} {w1:World} (h:IBox w1 B n V) (o:Obj):IBox (w1.alloc o) B n V:=h.below (below_alloc (Below.refl _ _) _)
theorem IBox.step {B V:Nat} {n:Bool} {w1 w2:World} {o:Obj} (h:IBox w1 B n V) (hb:Below (w1.alloc o).heap.size (w1.alloc o) w2):IBox w2 B n V:=(h.alloc o).below hb
theorem IBox.drew {B V:Nat} {n:Bool} {w1:World} (h:IBox w1 B n V):IBox w1.drew B n V:=h.below (Below.refl _ _).drew
theorem ibox_new {w:World} {n:Bool} {V:Nat} {t:TypeId}:IBox (w.alloc (.cells #[.bool n,.int .u64 (lm V 0:Nat),.int .u64 (lm V 1:Nat),.int .u64 (lm V 2:Nat),.int .u64 (lm V 3:Nat)] t)) w.heap.size n V:=
 ⟨by simp [go_sem],by simp [go_sem],by simp [go_sem],by simp [go_sem],by simp [go_sem],by simp⟩
theorem ibox_hb {w w1:World} {n:Bool} {V:Nat} {t:TypeId} (hb:Below (w.alloc (.cells #[.bool n,.int .u64 (lm V 0:Nat),.int .u64 (lm V 1:Nat),.int .u64 (lm V 2:Nat),.int .u64 (lm V 3:Nat)] t)).heap.size (w.alloc (.cells #[.bool n,.int .u64 (lm V 0:Nat),.int .u64 (lm V 1:Nat),.int .u64 (lm V 2:Nat),.int .u64 (lm V 3:Nat)] t)) w1):IBox w1 w.heap.size n V:=
 ibox_new.below hb
theorem ibox_hb2 {w w1:World} {n:Bool} {V:Nat} {t:TypeId} {o:Obj} (hb:Below ((w.alloc (.cells #[.bool n,.int .u64 (lm V 0:Nat),.int .u64 (lm V 1:Nat),.int .u64 (lm V 2:Nat),.int .u64 (lm V 3:Nat)] t)).alloc o).heap.size ((w.alloc (.cells #[.bool n,.int .u64 (lm V 0:Nat),.int .u64 (lm V 1:Nat),.int .u64 (lm V 2:Nat),.int .u64 (lm V 3:Nat)] t)).alloc o) w1):IBox w1 w.heap.size n V:=
 (ibox_new.alloc o).below hb
theorem IBox.all {B V:Nat} {n:Bool} {w1:World} (h:IBox w1 B n V):w1.cell? ⟨B,0,none⟩=some (.bool n)∧w1.cell? ⟨B,1,none⟩=some (.int .u64 (lm V 0:Nat))∧w1.cell? ⟨B,2,none⟩=some (.int .u64 (lm V 1:Nat))∧w1.cell? ⟨B,3,none⟩=some (.int .u64 (lm V 2:Nat))∧(w1.cell? ⟨B,4,none⟩=some (.int .u64 (lm V 3:Nat))∧B < w1.heap.size):=
 ⟨h.c0,h.c1,h.c2,h.c3,h.c4,h.l⟩
structure ZI (w':World) (B:Nat):Prop where
 z0:w'.cell? ⟨B,0,none⟩=some (.bool false)∧w'.frozen? ⟨B,0,none⟩=false
 z1:w'.cell? ⟨B,1,none⟩=some (.int .u64 0)∧w'.frozen? ⟨B,1,none⟩=false
 z2:w'.cell? ⟨B,2,none⟩=some (.int .u64 0)∧w'.frozen? ⟨B,2,none⟩=false
 z3:w'.cell? ⟨B,3,none⟩=some (.int .u64 0)∧w'.frozen? ⟨B,3,none⟩=false
 z4:w'.cell? ⟨B,4,none⟩=some (.int .u64 0)∧w'.frozen? ⟨B,4,none⟩=false
 l:B < w'.heap.size
theorem ZI.below {B:Nat} {w1 w2:World} (h:ZI w1 B) (hb:Below w1.heap.size w1 w2):ZI w2 B:=
 ⟨by rw [hb.cell (p:=⟨B,0,none⟩) h.l,hb.frozen (p:=⟨B,0,none⟩) h.l];exact h.z0,by rw [hb.cell (p:=⟨B,1,none⟩) h.l,hb.frozen (p:=⟨B,1,none⟩) h.l];exact h.z1,by rw [hb.cell (p:=⟨B,2,none⟩) h.l,hb.frozen (p:=⟨B,2,none⟩) h.l];exact h.z2,by rw [hb.cell (p:=⟨B,3,none⟩) h.l,hb.frozen (p:=⟨B,3,none⟩) h.l];exact h.z3,by rw [hb.cell (p:=⟨B,4,none⟩) h.l,hb.frozen (p:=⟨B,4,none⟩) h.l];exact h.z4,Nat.lt_of_lt_of_le h.l hb.size⟩
theorem ZI.alloc {B:Nat} {w1:World} (h:ZI w1 B) (o:Obj):ZI (w1.alloc o) B:=h.below (below_alloc (Below.refl _ _) _)
theorem ZI.step {B:Nat} {w1 w2:World} {o:Obj} (h:ZI w1 B) (hb:Below (w1.alloc o).heap.size (w1.alloc o) w2):ZI w2 B:=(h.alloc o).below hb
theorem zi_new {w:World} {t:TypeId}:ZI (w.alloc (.cells #[.bool false,.int .u64 0,.int .u64 0,.int .u64 0,.int .u64 0] t)) w.heap.size:=
 ⟨by simp [go_sem],by simp [go_sem],by simp [go_sem],by simp [go_sem],by simp [go_sem],by simp⟩
theorem zi_hb {w w1:World} {t:TypeId} (hb:Below (w.alloc (.cells #[.bool false,.int .u64 0,.int .u64 0,.int .u64 0,.int .u64 0] t)).heap.size (w.alloc (.cells #[.bool false,.int .u64 0,.int .u64 0,.int .u64 0,.int .u64 0] t)) w1):ZI w1 w.heap.size:=zi_new.below hb
theorem zi_hb1 {w w1:World} {t:TypeId} {o:Obj} (hb:Below ((w.alloc o).alloc (.cells #[.bool false,.int .u64 0,.int .u64 0,.int .u64 0,.int .u64 0] t)).heap.size ((w.alloc o).alloc (.cells #[.bool false,.int .u64 0,.int .u64 0,.int .u64 0,.int .u64 0] t)) w1):ZI w1 (w.heap.size+1):=by
 have h:=zi_hb hb
 simpa using h
theorem ZI.all {B:Nat} {w1:World} (h:ZI w1 B):(w1.cell? ⟨B,0,none⟩=some (.bool false)∧w1.cell? ⟨B,1,none⟩=some (.int .u64 0)∧w1.cell? ⟨B,2,none⟩=some (.int .u64 0)∧w1.cell? ⟨B,3,none⟩=some (.int .u64 0)∧w1.cell? ⟨B,4,none⟩=some (.int .u64 0))∧w1.frozen? ⟨B,0,none⟩=false∧w1.frozen? ⟨B,1,none⟩=false∧w1.frozen? ⟨B,2,none⟩=false∧(w1.frozen? ⟨B,3,none⟩=false∧w1.frozen? ⟨B,4,none⟩=false∧B < w1.heap.size):=
 ⟨⟨h.z0.1,h.z1.1,h.z2.1,h.z3.1,h.z4.1⟩,h.z0.2,h.z1.2,h.z2.2,h.z3.2,h.z4.2,h.l⟩
theorem of_walk (n:Bool) (V:Nat) (s:Bool) (w:World) (hs:Hid (n=false∧s=false∨n=true∧(!(((lm V 0:Nat):Int) == 0 && ((lm V 1:Nat):Int) == 0 && ((lm V 2:Nat):Int) == 0 && ((lm V 3:Nat):Int) == 0))=s)) :
  Calls Tryd.prog 91 #[.bool n,.agg #[.int .u64 (lm (V) 0:Nat),.int .u64 (lm (V) 1:Nat),.int .u64 (lm (V) 2:Nat),.int .u64 (lm (V) 3:Nat)]] w fun e w'=>e=.returned (.agg #[.bool (s ),.int .u64 (lm ( V) 0:Nat),.int .u64 (lm ( V) 1:Nat),.int .u64 (lm ( V) 2:Nat),.int .u64 (lm ( V) 3:Nat)])∧Below w.heap.size w w':=by
 rcases hs.out with ⟨rfl,rfl⟩|⟨rfl,h⟩
 ·go_enter Tryd.func91,Tryd.ntmps91
  repeat any_goals (first|fail|go_skip|go_guarded|go_step|go_upon|(dsimp only []))
  (refine still_tail 8 z0a z0a ?_;simp only [List.take_succ_cons,List.take_zero,List.drop_succ_cons,List.drop_zero];(repeat still_step);refine wpStill_nil ?_)
  repeat any_goals (first|fail|go_skip|go_guarded|go_step|go_upon|(dsimp only []))
  refine bodyPost_ret (v:=.agg #[.bool (false ),.int .u64 (lm ( V) 0:Nat),.int .u64 (lm ( V) 1:Nat),.int .u64 (lm ( V) 2:Nat),.int .u64 (lm ( V) 3:Nat)]) ?_ rfl ⟨rfl,zb1⟩
  simp [results,Tryd.results91,go_sem]
 ·go_enter Tryd.func91,Tryd.ntmps91
  repeat any_goals (first|fail|go_skip|go_guarded|go_step|go_upon|(dsimp only []))
  (refine still_tail 8 z0a z0a ?_;simp only [List.take_succ_cons,List.take_zero,List.drop_succ_cons,List.drop_zero];(repeat still_step);refine wpStill_nil ?_)
  repeat any_goals (first|fail|go_skip|go_guarded|go_step|go_upon|(dsimp only []))
  refine bodyPost_ret (v:=.agg #[.bool (s ),.int .u64 (lm ( V) 0:Nat),.int .u64 (lm ( V) 1:Nat),.int .u64 (lm ( V) 2:Nat),.int .u64 (lm ( V) 3:Nat)]) ?_ rfl ⟨rfl,zb1⟩
  simp [results,Tryd.results91,go_sem]
theorem of_any (n:Bool) (V:Nat) (hV:V < 2 ^ 256) (w:World) :
  Calls Tryd.prog 91 #[.bool n,.agg #[.int .u64 (lm (V) 0:Nat),.int .u64 (lm (V) 1:Nat),.int .u64 (lm (V) 2:Nat),.int .u64 (lm (V) 3:Nat)]] w fun e w'=>e=.returned (.agg #[.bool (n && V != 0 ),.int .u64 (lm ( V) 0:Nat),.int .u64 (lm ( V) 1:Nat),.int .u64 (lm ( V) 2:Nat),.int .u64 (lm ( V) 3:Nat)])∧Below w.heap.size w w':=by
 refine of_walk n V _ w (Lib.hid ?_)
 cases n with
 | false=>exact .inl ⟨rfl,rfl⟩
 | true=>exact .inr ⟨rfl,by rw [lm_nz hV,Bool.true_and]⟩
theorem u64_ab (v:Int) (h0 : -9223372036854775808≤v) (h1:v < 9223372036854775808) (hn:v < 0):IntKind.u64.wrap (-IntKind.u64.wrap v)=((ab v:Nat):Int):=by
 rw [IntKind.wrap_u64,IntKind.wrap_u64]
 unfold ab
 omega
theorem u64_pos (v:Int) (h1:v < 9223372036854775808) (hn:0≤v):IntKind.u64.wrap v=((ab v:Nat):Int):=by
 rw [IntKind.wrap_u64]
 unfold ab
 omega
theorem Of_neg (v:Int) (u:Nat) (s:Bool) (hv:v < 0) (e:IntKind.u64.wrap (-IntKind.u64.wrap v)=(u:Int)) (w:World)
  (C:Hid (∀ w:World,Calls Tryd.prog 83 #[.int .u64 (u:Int)] w fun e w'=>e=.returned (.agg #[.int .u64 (lm (u) 0:Nat),.int .u64 (lm (u) 1:Nat),.int .u64 (lm (u) 2:Nat),.int .u64 (lm (u) 3:Nat)])∧Below w.heap.size w w')) (D:Hid (∀ w:World,Calls Tryd.prog 91 #[.bool true,.agg #[.int .u64 (lm (u) 0:Nat),.int .u64 (lm (u) 1:Nat),.int .u64 (lm (u) 2:Nat),.int .u64 (lm (u) 3:Nat)]] w fun e w'=>e=.returned (.agg #[.bool (s ),.int .u64 (lm ( u) 0:Nat),.int .u64 (lm ( u) 1:Nat),.int .u64 (lm ( u) 2:Nat),.int .u64 (lm ( u) 3:Nat)])∧Below w.heap.size w w')) :
  Calls Tryd.prog 87 #[.int .i64 v] w fun e w'=>e=.returned (.agg #[.bool (s ),.int .u64 (lm ( u) 0:Nat),.int .u64 (lm ( u) 1:Nat),.int .u64 (lm ( u) 2:Nat),.int .u64 (lm ( u) 3:Nat)])∧Below w.heap.size w w':=by
 exact z6zk1
theorem Of_pos (v:Int) (u:Nat) (s:Bool) (hv:0≤v) (e:IntKind.u64.wrap v=(u:Int)) (w:World)
  (C:Hid (∀ w:World,Calls Tryd.prog 83 #[.int .u64 (u:Int)] w fun e w'=>e=.returned (.agg #[.int .u64 (lm (u) 0:Nat),.int .u64 (lm (u) 1:Nat),.int .u64 (lm (u) 2:Nat),.int .u64 (lm (u) 3:Nat)])∧Below w.heap.size w w')) (D:Hid (∀ w:World,Calls Tryd.prog 91 #[.bool false,.agg #[.int .u64 (lm (u) 0:Nat),.int .u64 (lm (u) 1:Nat),.int .u64 (lm (u) 2:Nat),.int .u64 (lm (u) 3:Nat)]] w fun e w'=>e=.returned (.agg #[.bool (s ),.int .u64 (lm ( u) 0:Nat),.int .u64 (lm ( u) 1:Nat),.int .u64 (lm ( u) 2:Nat),.int .u64 (lm ( u) 3:Nat)])∧Below w.heap.size w w')) :
  Calls Tryd.prog 87 #[.int .i64 v] w fun e w'=>e=.returned (.agg #[.bool (s ),.int .u64 (lm ( u) 0:Nat),.int .u64 (lm ( u) 1:Nat),.int .u64 (lm ( u) 2:Nat),.int .u64 (lm ( u) 3:Nat)])∧Below w.heap.size w w':=by
 exact z6zk1
theorem OfI_any (v:Int) (h0 : -9223372036854775808≤v) (h1:v < 9223372036854775808) (w:World) :
  Calls Tryd.prog 87 #[.int .i64 v] w fun e w'=>e=.returned (.agg #[.bool (sg v ),.int .u64 (lm ( ab v) 0:Nat),.int .u64 (lm ( ab v) 1:Nat),.int .u64 (lm ( ab v) 2:Nat),.int .u64 (lm ( ab v) 3:Nat)])∧Below w.heap.size w w':=by
 have hu:ab v < 18446744073709551616:=by unfold ab;omega
 by_cases c:v < 0
 ·refine Of_neg v _ _ c (u64_ab v h0 h1 c) w (Lib.hid (OfV_any _ hu)) (Lib.hid fun w=>?_)
  have h:=of_any true (ab v) z0b w
  rw [← sg_of,show zI true (ab v)=v from by rw [zI_true];unfold ab;omega] at h
  exact h
 ·refine Of_pos v _ _ z0b (u64_pos v h1 z0b) w (Lib.hid (OfV_any _ hu)) (Lib.hid fun w=>?_)
  have h:=of_any false (ab v) z0b w
  rw [← sg_of,show zI false (ab v)=v from by rw [zI_false];unfold ab;omega] at h
  exact h
theorem OfU_walk (u:Nat) (w:World)
  (C:Hid (∀ w:World,Calls Tryd.prog 83 #[.int .u64 (u:Int)] w fun e w'=>e=.returned (.agg #[.int .u64 (lm (u) 0:Nat),.int .u64 (lm (u) 1:Nat),.int .u64 (lm (u) 2:Nat),.int .u64 (lm (u) 3:Nat)])∧Below w.heap.size w w')) (D:Hid (∀ w:World,Calls Tryd.prog 91 #[.bool false,.agg #[.int .u64 (lm (u) 0:Nat),.int .u64 (lm (u) 1:Nat),.int .u64 (lm (u) 2:Nat),.int .u64 (lm (u) 3:Nat)]] w fun e w'=>e=.returned (.agg #[.bool (false ),.int .u64 (lm ( u) 0:Nat),.int .u64 (lm ( u) 1:Nat),.int .u64 (lm ( u) 2:Nat),.int .u64 (lm ( u) 3:Nat)])∧Below w.heap.size w w')) :
  Calls Tryd.prog 88 #[.int .u64 (u:Int)] w fun e w'=>e=.returned (.agg #[.bool (false ),.int .u64 (lm ( u) 0:Nat),.int .u64 (lm ( u) 1:Nat),.int .u64 (lm ( u) 2:Nat),.int .u64 (lm ( u) 3:Nat)])∧Below w.heap.size w w':=by
 go_enter Tryd.func88,Tryd.ntmps88
 repeat any_goals (first|(go_at_call 83;with_reducible refine (C.out _).mono ?_;rintro e w1 ⟨rfl,hb1⟩;(first|have z1:=Lib.hid (zi_hb1 hb1)|have z1:=Lib.hid (zi_hb hb1));obtain ⟨_,_,_,_,_⟩:=z1.out.all)|(go_at_call 91;with_reducible refine (D.out _).mono ?_;rintro e w2 ⟨rfl,hb2⟩;(first|have z2:=Lib.hid (z1.out.below hb2)|have z2:=Lib.hid (z1.out.step hb2)|have z2:=Lib.hid (z1.out.step2 hb2));obtain ⟨_,_,_,_,_⟩:=z2.out.all)|go_skip|go_guarded|go_step|go_upon|(dsimp only []))
 refine bodyPost_ret (v:=.agg #[.bool (false ),.int .u64 (lm ( u) 0:Nat),.int .u64 (lm ( u) 1:Nat),.int .u64 (lm ( u) 2:Nat),.int .u64 (lm ( u) 3:Nat)]) ?_ rfl ⟨rfl,zb2⟩
 simp [results,Tryd.results88,go_sem, *]
theorem OfU_any (u:Nat) (h1:u < 18446744073709551616) (w:World) :
  Calls Tryd.prog 88 #[.int .u64 (u:Int)] w fun e w'=>e=.returned (.agg #[.bool (false ),.int .u64 (lm ( u) 0:Nat),.int .u64 (lm ( u) 1:Nat),.int .u64 (lm ( u) 2:Nat),.int .u64 (lm ( u) 3:Nat)])∧Below w.heap.size w w':=
 OfU_walk u w (Lib.hid (OfV_any _ h1)) (Lib.hid fun w=>of_any false u z0b w)
structure CmC (n:Bool) (V:Nat) (m:Bool) (U:Nat) (p q:Bool) (x y:Int):Prop where
 c1:∀ w:World,Calls Tryd.prog 59 #[.agg #[.bool (n ),.int .u64 (lm ( V) 0:Nat),.int .u64 (lm ( V) 1:Nat),.int .u64 (lm ( V) 2:Nat),.int .u64 (lm ( V) 3:Nat)]] w fun e w'=>e=.returned (.bool p)∧Below w.heap.size w w'
 c2:∀ w:World,Calls Tryd.prog 59 #[.agg #[.bool (m ),.int .u64 (lm ( U) 0:Nat),.int .u64 (lm ( U) 1:Nat),.int .u64 (lm ( U) 2:Nat),.int .u64 (lm ( U) 3:Nat)]] w fun e w'=>e=.returned (.bool q)∧Below w.heap.size w w'
 c3:∀ w:World,Calls Tryd.prog 89 #[.agg #[.int .u64 (lm (U) 0:Nat),.int .u64 (lm (U) 1:Nat),.int .u64 (lm (U) 2:Nat),.int .u64 (lm (U) 3:Nat)],.agg #[.int .u64 (lm (V) 0:Nat),.int .u64 (lm (V) 1:Nat),.int .u64 (lm (V) 2:Nat),.int .u64 (lm (V) 3:Nat)]] w fun e w'=>e=.returned (.int .i64 y)∧Below w.heap.size w w'
 c4:∀ w:World,Calls Tryd.prog 89 #[.agg #[.int .u64 (lm (V) 0:Nat),.int .u64 (lm (V) 1:Nat),.int .u64 (lm (V) 2:Nat),.int .u64 (lm (V) 3:Nat)],.agg #[.int .u64 (lm (U) 0:Nat),.int .u64 (lm (U) 1:Nat),.int .u64 (lm (U) 2:Nat),.int .u64 (lm (U) 3:Nat)]] w fun e w'=>e=.returned (.int .i64 x)∧Below w.heap.size w w'
theorem ibox_hbB {w w1:World} {n:Bool} {V:Nat} {t:TypeId} {o:Obj} (hb:Below ((w.alloc o).alloc (.cells #[.bool n,.int .u64 (lm V 0:Nat),.int .u64 (lm V 1:Nat),.int .u64 (lm V 2:Nat),.int .u64 (lm V 3:Nat)] t)).heap.size ((w.alloc o).alloc (.cells #[.bool n,.int .u64 (lm V 0:Nat),.int .u64 (lm V 1:Nat),.int .u64 (lm V 2:Nat),.int .u64 (lm V 3:Nat)] t)) w1):IBox w1 (w.heap.size+1) n V:=by
 have h:=ibox_hb hb
 simpa using h
theorem Cmp_walk (n:Bool) (V:Nat) (m:Bool) (U:Nat) (p q:Bool) (x y z:Int) (w:World) (C:Hid (CmC n V m U p q x y))
  (h:p=false∧z=0∨p=true∧q=false∧z=0∨p=true∧q=true∧(n=true∧m=true∧z=y∨n=true∧m=false∧z = -1∨n=false∧m=true∧z=1∨n=false∧m=false∧z=x)) :
  Calls Tryd.prog 81 #[.agg #[.bool (n ),.int .u64 (lm ( V) 0:Nat),.int .u64 (lm ( V) 1:Nat),.int .u64 (lm ( V) 2:Nat),.int .u64 (lm ( V) 3:Nat)],.agg #[.bool (m ),.int .u64 (lm ( U) 0:Nat),.int .u64 (lm ( U) 1:Nat),.int .u64 (lm ( U) 2:Nat),.int .u64 (lm ( U) 3:Nat)]] w fun e w'=>e=.returned (.int .i64 z)∧Below w.heap.size w w':=by
 rcases h with ⟨rfl,rfl⟩|⟨rfl,rfl,rfl⟩|⟨rfl,rfl,⟨rfl,rfl,rfl⟩|⟨rfl,rfl,rfl⟩|⟨rfl,rfl,rfl⟩|⟨rfl,rfl,rfl⟩⟩
 all_goals (
  go_enter Tryd.func81,Tryd.ntmps81
  repeat any_goals (first|(go_at_call 59;with_reducible refine (C.out.c1 _).mono ?_;rintro e w1 ⟨rfl,hb1⟩;have a1:=Lib.hid (ibox_hb2 hb1);obtain ⟨_,_,_,_,_⟩:=a1.out.all;have b1:=Lib.hid (ibox_hbB hb1);obtain ⟨_,_,_,_,_⟩:=b1.out.all)|(go_at_call 59;with_reducible refine (C.out.c2 _).mono ?_;rintro e w2 ⟨rfl,hb2⟩;(first|have a2:=Lib.hid (a1.out.below hb2)|have a2:=Lib.hid (a1.out.step hb2)|have a2:=Lib.hid (a1.out.step2 hb2));obtain ⟨_,_,_,_,_⟩:=a2.out.all;(first|have b2:=Lib.hid (b1.out.below hb2)|have b2:=Lib.hid (b1.out.step hb2)|have b2:=Lib.hid (b1.out.step2 hb2));obtain ⟨_,_,_,_,_⟩:=b2.out.all)|(go_at_call 89;with_reducible refine (C.out.c3 _).mono ?_;rintro e w3 ⟨rfl,hb3⟩;(first|have a3:=Lib.hid (a2.out.below hb3)|have a3:=Lib.hid (a2.out.step hb3)|have a3:=Lib.hid (a2.out.step2 hb3));obtain ⟨_,_,_,_,_⟩:=a3.out.all)|(go_at_call 89;with_reducible refine (C.out.c4 _).mono ?_;rintro e w3 ⟨rfl,hb3⟩;(first|have a3:=Lib.hid (a2.out.below hb3)|have a3:=Lib.hid (a2.out.step hb3)|have a3:=Lib.hid (a2.out.step2 hb3));obtain ⟨_,_,_,_,_⟩:=a3.out.all)|go_skip|go_guarded|go_step|go_upon|(dsimp only []))
  go_ret
  exact ⟨by simp,zb2⟩)
theorem Cmp_any (n:Bool) (V:Nat) (hV:V < 2 ^ 256) (m:Bool) (U:Nat) (hU:U < 2 ^ 256) (w:World) :
  Calls Tryd.prog 81 #[.agg #[.bool (n ),.int .u64 (lm ( V) 0:Nat),.int .u64 (lm ( V) 1:Nat),.int .u64 (lm ( V) 2:Nat),.int .u64 (lm ( V) 3:Nat)],.agg #[.bool (m ),.int .u64 (lm ( U) 0:Nat),.int .u64 (lm ( U) 1:Nat),.int .u64 (lm ( U) 2:Nat),.int .u64 (lm ( U) 3:Nat)]] w fun e w'=>e=.returned (.int .i64 (cmpI n V m U))∧Below w.heap.size w w':=by
 refine Cmp_walk n V m U _ _ _ _ _ w (Lib.hid (CmC.mk (May_any n V hV) (May_any m U hU) (CmpN_any U V hU hV) (CmpN_any V U hV hU))) ?_
 unfold cmpI
 cases hm:mayI n V with
 | false=>exact .inl ⟨rfl,rfl⟩
 | true=>
  right
  cases hm2:mayI m U with
  | false=>exact .inl ⟨rfl,rfl,rfl⟩
  | true=>
   refine .inr ⟨rfl,rfl,?_⟩
   simp only [Bool.and_self,if_true]
   cases n with
   | true=>
    have hp:=may_true.1 hm
    cases m with
    | true=>exact .inl ⟨rfl,rfl,by rw [zI_true,zI_true,cmpZ_neg]⟩
    | false=>
     refine .inr (.inl ⟨rfl,rfl,?_⟩)
     unfold cmpZ
     rw [if_pos (by rw [zI_true,zI_false];omega)]
   | false=>
    cases m with
    | true=>
     have hp:=may_true.1 hm2
     refine .inr (.inr (.inl ⟨rfl,rfl,?_⟩))
     unfold cmpZ
     rw [if_neg (by rw [zI_true,zI_false];omega),if_neg (by rw [zI_true,zI_false];omega)]
    | false=>exact .inr (.inr (.inr ⟨rfl,rfl,by rw [zI_false,zI_false,cmpZ_nn]⟩))
end Go.Proofs.YtfondldmmcmloaaDoor
