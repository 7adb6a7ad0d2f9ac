/- MathIeee, MathIe6, Ra6. -/
import Derived.Test.YtfondldmmcmloaaGreatDoorPb6
import Derived.Test.YtfondldmmcmloaaGreatDoorPb17
set_option maxRecDepth 1000000
set_option maxHeartbeats 8000000
namespace Go.Proofs.YtfondldmmcmloaaGreatDoor
open Go.RowKit
def plc (b:Nat):Int:=(if fe b=0 then 1 else (fe b:Int)) - 1075
theorem mant_pm {b:Nat} (hf:fe b≠2047) (h0:mant b≠0):0 < pm b∧mant b=pm b * 2 ^ tz (mant b)∧plc b=pk b - tz (mant b):=by
 have h1:=pm_odd hf h0
 refine ⟨by omega,?_,?_⟩
 ·unfold pm
  rw [if_neg hf]
  exact (odd_part_mul _).symm
 ·have e:pk b=(if fe b=0 then 1 else (fe b:Int)) - 1075+(tz (mant b):Int):=by
   unfold pk
   rw [if_neg z0c]
  unfold plc
  omega
theorem Below.isD {w w':World} {v:Value} {V:Nat} (hb:Below w.heap.size w w') (h:IsD w v V):IsD w' v V:=DN.below h hb
theorem Shift_up (v:Value) (n V k:Nat) (w:World) (h:DN w v n V) (hn:n≤1000000) (hk:k≤1000000) :
  Calls Tryz.prog 128 #[v,.int .i64 (k:Int)] w fun e w'=>∃ v',e=.returned v'∧IsD w' v' (V * 2 ^ k)∧Below w.heap.size w w':=by
 have H:=Lib.hid h
 clear h
 go_enter Tryz.func128,Tryz.ntmps128
 repeat any_goals (first|(go_at_call 134;with_reducible refine (Pow_any k z0c _).mono ?_;rintro e w1 ⟨v1,rfl,hv1,hb1⟩)|(go_at_call 133;with_reducible refine (Mul_any _ _ n (k / 32+1) V (2 ^ k) _ (H.out.below hb1) hv1 z0c z0c).mono ?_;rintro e w2 ⟨v2,rfl,hv2,hb2⟩)|go_skip|go_guarded|go_step|go_upon|(dsimp only []))
 go_ret
 exact ⟨v2,rfl,hv2,below_trans hb1 hb2⟩
def shI (V:Nat) (k:Int):Nat:=if 0≤k then V * 2 ^ k.toNat else V / 2 ^ (-k).toNat
theorem Shift_any (v:Value) (n V:Nat) (k:Int) (w:World) (h:DN w v n V) (hn:n≤1000000) (hk1 : -1000000≤k) (hk2:k≤1000000) :
  Calls Tryz.prog 128 #[v,.int .i64 k] w fun e w'=>∃ v',e=.returned v'∧IsD w' v' (shI V k)∧Below w.heap.size w w':=by
 unfold shI
 by_cases c:0≤k
 ·rw [if_pos c]
  obtain ⟨m,rfl⟩:∃ m:Nat,k=m:=⟨k.toNat,by omega⟩
  exact Shift_up v n V m w h hn z0c
 ·rw [if_neg c]
  obtain ⟨m,hm⟩:∃ m:Nat,k = -(m:Int):=⟨(-k).toNat,by omega⟩
  subst hm
  rw [show (- -(m:Int)).toNat=m from by omega]
  have h':=h
  obtain ⟨_,_,ao,cap,rfl,_⟩:=h'
  exact Shift_walk ao n cap V m w h hn z0c z0c
theorem sgn_eq {b:Nat} (_hb:b < 18446744073709551616):(((b:Int) / 9223372036854775808) == 1)=(b / 9223372036854775808 == 1):=by
 rw [show (b:Int) / 9223372036854775808=((b / 9223372036854775808:Nat):Int) from by omega]
 generalize b / 9223372036854775808=s
 rw [Bool.eq_iff_iff]
 simp
 omega
theorem rparts_inf (b:Nat) (w:World) (s:Bool) (es:(((b:Int) / 9223372036854775808) == 1)=s) (e1:bits BinOp.and IntKind.u64 ((b:Int) / 4503599627370496) 2047=2047) :
  Calls Tryz.prog 113 #[.int .u64 b] w fun e w'=>e=.returned (.tuple #[.bool s,.slice none 0 0,.int .i64 0,.bool false])∧w=w':=by
 go_enter Tryz.func113,Tryz.ntmps113
 repeat any_goals (first|go_skip|go_guarded|go_step|go_upon|(simp only [];done))
 refine bodyPost_ret (v:=.tuple #[.bool s,.slice none 0 0,.int .i64 0,.bool false]) ?_ rfl ⟨rfl,rfl⟩
 simp [results,Tryz.results113,go_sem]
theorem rparts_sub (b m:Nat) (hm:m < 18446744073709551616) (w:World) (s:Bool) (es:(((b:Int) / 9223372036854775808) == 1)=s) (e1:bits BinOp.and IntKind.u64 ((b:Int) / 4503599627370496) 2047=0) (e2:bits BinOp.and IntKind.u64 (b:Int) 4503599627370495=(m:Int)) :
  Calls Tryz.prog 113 #[.int .u64 b] w fun e w'=>∃ v,e=.returned (.tuple #[.bool s,v,.int .i64 (-1074),.bool true])∧IsD w' v m∧Below w.heap.size w w':=by
 go_enter Tryz.func113,Tryz.ntmps113
 repeat any_goals (first|(go_at_call 129;with_reducible refine (Small_any m hm _).mono ?_;rintro e w1 ⟨v1,rfl,hv1,hb1⟩)|go_skip|go_guarded|go_step|go_upon|(dsimp only []))
 refine bodyPost_ret (v:=.tuple #[.bool s,v1,.int .i64 (-1074),.bool true]) ?_ rfl ⟨v1,rfl,hv1,hb1⟩
 simp [results,Tryz.results113,go_sem]
theorem rparts_norm (b m f M:Nat) (hM:M < 18446744073709551616) (w:World) (s:Bool) (es:(((b:Int) / 9223372036854775808) == 1)=s) (hf1:1≤f) (hf2:f≤2046) (t1:((f:Int) == 2047)=false) (t2:((f:Int) == 0)=false) (e1:bits BinOp.and IntKind.u64 ((b:Int) / 4503599627370496) 2047=(f:Int)) (e2:bits BinOp.and IntKind.u64 (b:Int) 4503599627370495=(m:Int)) (e3:bits BinOp.or IntKind.u64 (m:Int) 4503599627370496=(M:Int)) :
  Calls Tryz.prog 113 #[.int .u64 b] w fun e w'=>∃ v,e=.returned (.tuple #[.bool s,v,.int .i64 ((f:Int) - 1075),.bool true])∧IsD w' v M∧Below w.heap.size w w':=by
 go_enter Tryz.func113,Tryz.ntmps113
 repeat any_goals (first|(go_at_call 129;with_reducible refine (Small_any M hM _).mono ?_;rintro e w1 ⟨v1,rfl,hv1,hb1⟩)|go_skip|go_guarded|go_step|go_upon|(dsimp only []))
 refine bodyPost_ret (v:=.tuple #[.bool s,v1,.int .i64 ((f:Int) - 1075),.bool true]) ?_ rfl ⟨v1,rfl,hv1,hb1⟩
 simp [results,Tryz.results113,go_sem]
theorem isD_nil (w:World):IsD w (.slice none 0 0) 0:=⟨by decide,by decide,none,0,rfl,by decide,by decide,fun h=>absurd h z0e⟩
theorem rparts_any (b:Nat) (hb:b < 18446744073709551616) (w:World) :
  Calls Tryz.prog 113 #[.int .u64 b] w fun e w'=>∃ v,e=.returned (.tuple #[.bool (b / 9223372036854775808 == 1),v,.int .i64 (if fe b=2047 then 0 else plc b),.bool (fin b)])∧IsD w' v (if fe b=2047 then 0 else mant b)∧Below w.heap.size w w':=by
 have e1:=wfe hb
 have e2:=wand52 hb
 have hf:=fe_le b
 by_cases c:fe b=2047
 ·have hfin:fin b=false:=by unfold fin;rw [c];rfl
  rw [if_pos c,if_pos c,hfin]
  rw [c] at e1
  refine (rparts_inf b w _ (sgn_eq hb) e1).mono ?_
  rintro e w' ⟨rfl,rfl⟩
  exact ⟨_,rfl,isD_nil _,Below.refl _ _⟩
 ·have hfin:fin b=true:=(by unfold fin;simpa using c)
  rw [if_neg c,if_neg c,hfin]
  by_cases d:fe b=0
  ·rw [d] at e1
   have hm:mant b=fm b:=by unfold mant;rw [if_pos d]
   have hp:plc b = -1074:=by unfold plc;rw [if_pos d];rfl
   rw [hm,hp]
   exact rparts_sub b _ (Nat.lt_trans (fm_lt b) z0e) w _ (sgn_eq hb) e1 e2
  ·have hm:mant b=fm b+4503599627370496:=by unfold mant;rw [if_neg d]
   have hp:plc b=(fe b:Int) - 1075:=by unfold plc;rw [if_neg d]
   rw [hm,hp]
   have hl:=fm_lt b
   exact rparts_norm b _ (fe b) _ z0c w _ (sgn_eq hb) z0c z0c z0a1 z0a1 e1 e2 (wor52 hl)
theorem mant_bl (b:Nat):bl (mant b)≤53:=(bl_le_iff _ 53).2 (mant_lt b)
theorem plc_range {b:Nat} : -1074≤plc b∧plc b≤972:=by
 have:=fe_le b
 unfold plc
 split <;> omega
structure RP (b:Nat) (s:Bool) (p:Int) (f:Bool) (M:Nat):Prop where
 c:∀ w:World,Calls Tryz.prog 113 #[.int .u64 b] w fun e w'=>∃ v,e=.returned (.tuple #[.bool s,v,.int .i64 p,.bool f])∧IsD w' v M∧Below w.heap.size w w'
theorem RBehind_inf (b:Nat) (s:Bool) (p:Int) (M:Nat) (w:World) (C:Hid (RP b s p false M)) :
  Calls Tryz.prog 114 #[.int .u64 b] w fun e w'=>e=.returned (.int .i64 0)∧Below w.heap.size w w':=by
 go_enter Tryz.func114,Tryz.ntmps114
 repeat any_goals (first|(go_at_call 113;with_reducible refine (C.out.c _).mono ?_;rintro e w1 ⟨v1,rfl,hv1,hb1⟩)|go_skip|go_guarded|go_step|go_upon|(dsimp only []))
 go_ret
 exact ⟨by simp,hb1⟩
theorem RBehind_zero (b:Nat) (s:Bool) (p:Int) (w:World) (C:Hid (RP b s p true 0)) :
  Calls Tryz.prog 114 #[.int .u64 b] w fun e w'=>e=.returned (.int .i64 0)∧Below w.heap.size w w':=by
 go_enter Tryz.func114,Tryz.ntmps114
 repeat any_goals (first|(go_at_call 113;with_reducible refine (C.out.c _).mono ?_;rintro e w1 ⟨v1,rfl,hv1,hb1⟩)|(go_at_call 110;refine (DLen_any _ _ 0 _ hv1).mono ?_;rintro e w' ⟨rfl,rfl⟩)|go_skip|go_guarded|go_step|go_upon|(dsimp only []))
 go_ret
 exact ⟨by simp,hb1⟩
theorem RBehind_num (b M l t r:Nat) (s:Bool) (p:Int) (w:World) (hp1 : -1074≤p) (hp2:p≤972) (_hM:0 < M) (hl:bl M=l) (hl0:((l:Int) == 0)=false) (ht:(if M=0 then 256 else tz M)=t) (ht2:t≤60) (hr:max 0 (-p - (t:Int))=(r:Int)) (C:Hid (RP b s p true M)) :
  Calls Tryz.prog 114 #[.int .u64 b] w fun e w'=>e=.returned (.int .i64 (r:Nat))∧Below w.heap.size w w':=by
 have L:∀ (v:Value) (w:World),IsD w v M→Calls Tryz.prog 110 #[v] w fun e w'=>e=.returned (.int .i64 (l:Nat))∧w=w':=fun v w h=>by rw [← hl];exact DLen_any v _ M w h
 have T:∀ (v:Value) (w:World),IsD w v M→Calls Tryz.prog 111 #[v] w fun e w'=>e=.returned (.int .i64 (t:Nat))∧w=w':=fun v w h=>by rw [← ht];exact DTrail_any v _ M w h
 have LH:=Lib.hid (And.intro L T)
 clear L T hl ht _hM
 go_enter Tryz.func114,Tryz.ntmps114
 repeat any_goals (first|(go_at_call 113;with_reducible refine (C.out.c _).mono ?_;rintro e w1 ⟨v1,rfl,hv1,hb1⟩)|(go_at_call 110;refine (LH.out.1 _ _ hv1).mono ?_;rintro e w' ⟨rfl,rfl⟩)|(go_at_call 111;refine (LH.out.2 _ _ hv1).mono ?_;rintro e w' ⟨rfl,rfl⟩)|go_skip|go_guarded|go_step|go_upon|(dsimp only []))
 go_ret
 exact ⟨by simp,hb1⟩
theorem pk_plc {b:Nat} (h:fe b≠2047) (h0:mant b≠0):pk b=plc b+tz (mant b):=by
 unfold pk plc
 rw [if_neg (by intro x;rcases x with x|x;exact h x;exact h0 x)]
theorem RBehind_any (b:Nat) (hb:b < 18446744073709551616) (w:World) :
  Calls Tryz.prog 114 #[.int .u64 b] w fun e w'=>e=.returned (.int .i64 (beh b:Nat))∧Below w.heap.size w w':=by
 have C0:=rparts_any b hb
 by_cases c:fe b=2047
 ·have hfin:fin b=false:=by unfold fin;rw [c];rfl
  rw [if_pos c,if_pos c,hfin] at C0
  have hpm:pm b=0:=by unfold pm;rw [if_pos c]
  have hz:beh b=0:=by unfold beh;rw [pk_zero hpm];rfl
  rw [hz]
  exact RBehind_inf b _ _ _ w (Lib.hid ⟨C0⟩)
 ·have hfin:fin b=true:=by unfold fin;simpa using c
  rw [if_neg c,if_neg c,hfin] at C0
  by_cases d:mant b=0
  ·rw [d] at C0
   have hpm:pm b=0:=(pm_zero_iff b).2 (.inr d)
   have hz:beh b=0:=by unfold beh;rw [pk_zero hpm];rfl
   rw [hz]
   exact RBehind_zero b _ _ w (Lib.hid ⟨C0⟩)
  ·have hp:=@plc_range b
   have hk:=pk_plc c d
   have ht:=tz_mant b
   have hl:=bl_pos (Nat.pos_of_ne_zero d)
   exact RBehind_num b (mant b) (bl (mant b)) (tz (mant b)) (beh b) _ _ w hp.1 hp.2 z0c rfl z0a1 (if_neg d) z0c (by unfold beh;omega) (Lib.hid ⟨C0⟩)
end Go.Proofs.YtfondldmmcmloaaGreatDoor
