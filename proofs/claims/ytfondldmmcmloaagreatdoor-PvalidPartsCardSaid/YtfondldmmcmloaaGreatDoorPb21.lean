/- OwnM. -/
import Derived.Test.YtfondldmmcmloaaGreatDoorPb16
import Derived.Test.YtfondldmmcmloaaGreatDoorPb19
import Derived.Test.YtfondldmmcmloaaGreatDoorPb20
set_option maxRecDepth 1000000
set_option maxHeartbeats 8000000
namespace Go.Proofs.YtfondldmmcmloaaGreatDoor
open Go Go.RowKit
theorem z21zs1 {p q:Prop} (h:q) (e:q→p:=by intro hq;(try simp only [Act.put,List.setIfInBounds_toArray,List.set_cons_zero,List.set_cons_succ]);exact hq):p:=e h
theorem z21zs2 {p q:Prop} (h:q) (e:q→p:=by intro hq;simp only [Act.put,List.setIfInBounds_toArray,List.set_cons_zero,List.set_cons_succ];exact hq):p:=e h
theorem z21zk1 {p:Prop} (h:p:=by
 subst e
 clear HR
 go_enter Tryz.func55,Tryz.ntmps55
 repeat any_goals (first|go_skip|go_guarded|go_step|go_upon|(simp only [];done))
 exact bodyPost_ret (v:=.bool false) z0h rfl ⟨rfl,zb2⟩):p:=h
theorem z21zk2 {p:Prop} (h:p:=by
 exact bodyPost_ret (v:=.bool false) z0h rfl ⟨rfl,zb2⟩):p:=h
theorem z21zk3 {p:Prop} (h:p:=by
 subst e
 clear HR
 go_enter Tryz.func55,Tryz.ntmps55
 repeat any_goals (first|go_skip|go_guarded|go_step|go_upon|(simp only [];done))
 exact bodyPost_ret (v:=.bool true) z0h rfl ⟨rfl,zb2⟩):p:=h
theorem z21zk4 {p:Prop} (h:p:=by
 subst e
 clear HR
 repeat any_goals (first|go_skip|go_guarded|go_step|go_upon|(simp only [];done))
 exact bodyPost_ret (v:=.bool false) z0h rfl ⟨rfl,hW⟩):p:=h
theorem z21zk5 {p:Prop} (h:p:=by
 exact bodyPost_ret (v:=.bool true) z0h rfl ⟨rfl,zb2⟩):p:=h
theorem z21zk6 {p:Prop} (h:p:=by
 repeat (first|go_big_quiet_skip|(refine wpQuiet_skip (by rfl) ?_;refine z21zs2 ?_)|(go_big_quiet_want;go_big_quiet_op;go_big_quiet_on))
 (refine wpQuiet_nil ?_;intro w2 hw2;rw [HC.out] at hw2)
 repeat any_goals (first|go_skip|go_guarded|go_step|go_upon|(simp only [];done))
 exact bodyPost_ret (v:=.bool false) z0h rfl ⟨rfl,below_trans hW hw2⟩):p:=h
end Go.Proofs.YtfondldmmcmloaaGreatDoor
namespace Go.Proofs.YtfondldmmcmloaaGreatDoor
open Go.RowKit
theorem if_iff {p q:Prop} [Decidable p] [Decidable q] {α:Type} {a b:α} (h:p↔q):(if p then a else b)=if q then a else b:=by
 by_cases c:p
 ·rw [if_pos c,if_pos (h.1 c)]
 ·rw [if_neg c,if_neg (fun x=>c (h.2 x))]
theorem byte_lt (s:ByteArray) (i:Nat):(s.get! i).toNat < 256:=UInt8.toNat_lt _
theorem tup_nx {c:Prop} [Decidable c] {A:Nat} {k:Nat} {j:Int} (hj:(k:Int)=j) {x:Int × Nat} (hx:x=if c then ((A:Int),k) else (-1,1)) :
  (if c then Value.tuple #[.int .i64 (A:Nat),.int .i64 j] else .tuple #[.int .i64 (-1),.int .i64 1])=.tuple #[.int .i64 x.1,.int .i64 (x.2:Nat)]:=by
 subst hj
 by_cases h:c
 ·rw [if_pos h,hx,if_pos h]
 ·rw [if_neg h,hx,if_neg h]
  rfl
theorem Next_any (s:ByteArray) (a:Nat) (w:World) (ha:a < s.size) (hs:s.size < 9223372036854775000) :
  Calls Tryz.prog 98 #[.string s,.int .i64 (a:Nat)] w fun e w'=>e=.returned (.tuple #[.int .i64 (nxS s a).1,.int .i64 ((nxS s a).2:Nat)])∧w'=w:=by
 have H0:IXF s (a:Int) ((s.get! a).toNat:Nat):=idx_at ha
 have H1:∀ j:Nat,a+j < s.size→IXF s ((a:Int)+j) ((s.get! (a+j)).toNat:Nat):=fun j hj=>idx_at hj
 have e:=nxS_N s a
 have B0:=byte_lt s a
 have B1:=byte_lt s (a+1)
 have B2:=byte_lt s (a+2)
 have B3:=byte_lt s (a+3)
 have F:∀ b:Nat,b < 256→bits .and .u8 (b:Int) 63=((b % 64:Nat):Int):=fun b hb=>andF ⟨b,hb⟩
 have C:∀ b:Nat,b < 256→(bits .and .u8 (b:Int) 192 == 128)=decide (b / 64=2):=fun b hb=>andC ⟨b,hb⟩
 have h1:=H1 1
 have h2:=H1 2
 have h3:=H1 3
 generalize (s.get! a).toNat=b0 at *
 generalize (s.get! (a+1)).toNat=b1 at *
 generalize (s.get! (a+2)).toNat=b2 at *
 generalize (s.get! (a+3)).toNat=b3 at *
 by_cases c1:b0 < 128
 ·rw [nx_one c1] at e
  rw [e]
  exact Next_one s s.size a b0 w rfl hs ha H0 c1
 by_cases c2:b0 < 192∨248≤b0
 ·rw [nx_bad z0c c2 B0] at e
  rw [e]
  exact Next_bad s s.size a b0 w rfl hs ha H0 z0c c2 B0
 by_cases c3:b0 < 224
 ·rw [nx_two z0c c3] at e
  have G:=Next_two s s.size a b0 (b0 % 32) b1 (b1 % 64) w rfl hs ha H0 z0c c3 (and31 ⟨b0,B0⟩) z0c h1 (F b1 B1) _ (C b1 B1) z0c
  rw [tup_nx (k:=2) (j:=2) rfl (x:=nxS s a)] at G
  ·exact G
  ·rw [e]
   refine if_iff ?_
   simp only [decide_eq_true_eq,pointB]
   constructor
   ·rintro ⟨x1,x2,x3⟩;exact ⟨by omega,x2,x3,by omega⟩
   ·rintro ⟨x1,x2,x3,x4⟩;exact ⟨by omega,x2,x3⟩
 by_cases c4:b0 < 240
 ·rw [nx_three z0c c4] at e
  have G:=Next_three s s.size a b0 (b0 % 16) b1 (b1 % 64) b2 (b2 % 64) w rfl hs ha H0 z0c c4 (and15 ⟨b0,B0⟩) z0c h1 (F b1 B1) _ (C b1 B1) z0c h2 (F b2 B2) _ (C b2 B2) z0c
  rw [tup_nx (k:=3) (j:=3) rfl (x:=nxS s a)] at G
  ·exact G
  ·rw [e]
   refine if_iff ?_
   simp only [decide_eq_true_eq,pointB]
   constructor
   ·rintro ⟨x1,x2,x3,x4,x5⟩;exact ⟨by omega,x2,x3,x4,by omega⟩
   ·rintro ⟨x1,x2,x3,x4,x5⟩;exact ⟨by omega,x2,x3,x4,by omega⟩
 ·rw [nx_four z0c z0c] at e
  have G:=Next_four s s.size a b0 (b0 % 8) b1 (b1 % 64) b2 (b2 % 64) b3 (b3 % 64) w rfl hs ha H0 z0c z0c (and07 ⟨b0,B0⟩) z0c h1 (F b1 B1) _ (C b1 B1) z0c h2 (F b2 B2) _ (C b2 B2) z0c h3 (F b3 B3) _ (C b3 B3) z0c
  rw [tup_nx (k:=4) (j:=4) rfl (x:=nxS s a)] at G
  ·exact G
  ·rw [e]
   refine if_iff ?_
   simp only [decide_eq_true_eq,pointB]
   constructor
   ·rintro ⟨x1,x2,x3,x4,x5,x6⟩;exact ⟨by omega,x2,x3,x4,x5,by omega⟩
   ·rintro ⟨x1,x2,x3,x4,x5,x6⟩;exact ⟨by omega,x2,x3,x4,x5,by omega⟩
theorem RValid_any (s:ByteArray) (w:World) (hs:s.size < 9223372036854775000):Calls Tryz.prog 87 #[.string s] w fun e w'=>e=.returned (.bool (validS s))∧w'=w:=by
 obtain ⟨R,hR⟩:∃ R,R=validS s:=⟨_,rfl⟩
 rw [← hR]
 have HR:Hid (R=Lib.validD (s.data.toList.drop 0)):=Lib.hid hR
 clear hR
 obtain ⟨n,hn⟩:∃ n:Nat,s.size=n:=⟨_,rfl⟩
 have hni:(s.size:Int)=n:=by omega
 have HN:=Lib.hid hn
 rw [hn] at hs
 clear hn
 go_enter Tryz.func87,Tryz.ntmps87
 repeat any_goals (first|go_skip|go_guarded|go_step|go_upon|(simp only [];done))
 go_loop [3] (fun i=>∃ k:Nat,k≤n∧i=.int .i64 k∧R=Lib.validD (s.data.toList.drop k)) (fun i=>n - (intOf i).toNat)
 case atStart=>exact ⟨0,Nat.zero_le _,rfl,HR.out⟩
 case round=>
  obtain ⟨k,hk,rfl,hV⟩:=hrel
  by_cases hkn:k < n
  ·have i1:(k:Int) < (n:Int):=by omega
   have hst:=valid_next s k (by rw [HN.out];exact hkn)
   have hle:=nxS_le s k (by rw [HN.out];exact hkn)
   have hps:=nxS_pos s k
   have hC:Calls Tryz.prog 98 #[.string s,.int .i64 (k:Nat)] w fun e w'=>e=.returned (.tuple #[.int .i64 (nxS s k).1,.int .i64 ((nxS s k).2:Nat)])∧w'=w:=Next_any s k w (by rw [HN.out];exact hkn) (by rw [HN.out];exact hs)
   rw [HN.out] at hle
   generalize nxS s k=x at hst hle hps hC
   obtain ⟨x1,x2⟩:=x
   simp only at hst hle hps hC
   have HC:=Lib.hid hC
   rw [← hV] at hst
   have HV:=Lib.hid hst
   clear hC hst hV
   by_cases hx:x1 < 0
   ·have e:=HV.out
    rw [if_pos hx] at e
    subst e
    repeat any_goals (first|(go_at_call 98;refine (HC.out).mono ?_;rintro e w' ⟨rfl,rfl⟩)|go_skip|go_guarded|go_step|go_upon|(dsimp only []))
    exact bodyPost_ret (v:=.bool false) (by simp [results,Tryz.results87,go_sem]) rfl ⟨rfl,rfl⟩
   ·repeat any_goals (first|(go_at_call 98;refine (HC.out).mono ?_;rintro e w' ⟨rfl,rfl⟩)|go_skip|go_guarded|go_step|go_upon|(dsimp only []))
    go_round
    case rel=>exact ⟨k+x2,hle,by simp,by have e:=HV.out;rwa [if_neg hx] at e⟩
    case measure=>simp [intOf];omega
  ·have hk':k=n:=by omega
   subst hk'
   have i1:¬ (k:Int) < (k:Int):=by omega
   have e:R=true:=by rw [hV];exact valid_end _ _ (by rw [HN.out];exact Nat.le_refl _)
   subst e
   repeat any_goals (first|go_skip|go_guarded|go_step|go_upon|(simp only [];done))
   exact bodyPost_ret (v:=.bool true) (by simp [results,Tryz.results87,go_sem]) rfl ⟨rfl,rfl⟩
def eqI (s t:Bool) (a0 a1 a2 a3 b0 b1 b2 b3:Int):Bool:=s == t && (a0 == b0 && a1 == b1 && a2 == b2 && a3 == b3)
@[go_sem high] theorem run_equalIn_int (d : Nat) (s : Bool) (a0 a1 a2 a3 : Int) (t : Bool) (b0 b1 b2 b3 : Int) (w : World) :
  (Op.equalIn (d+3) 27 (.agg #[.bool s,.int .u64 a0,.int .u64 a1,.int .u64 a2,.int .u64 a3]) (.agg #[.bool t,.int .u64 b0,.int .u64 b1,.int .u64 b2,.int .u64 b3])).run Tryz.prog w=.ok (eqI s t a0 a1 a2 a3 b0 b1 b2 b3) w:=by
 have h26:=Tryz.underlying27
 have h24:=Tryz.underlying25
 unfold Op.equalIn eqI
 simp only [Sem.run_bind,run_underlying h26,Result.andThen_ok]
 simp [go_sem]
 by_cases e:s=t <;> by_cases e0:a0=b0 <;> by_cases e1:a1=b1 <;> by_cases e2:a2=b2 <;> by_cases e3:a3=b3 <;> simp [e,e0,e1,e2,e3]
theorem toList_nil {t:ByteArray} (h:t.toList=[]):t=⟨#[]⟩:=toList_inj (h.trans (by simp [ByteArray.toList_eq]))
theorem eqI_zero {n:Bool} {V:Nat} (hV:V < 2 ^ 256):eqI n false (lm V 0:Nat) (lm V 1:Nat) (lm V 2:Nat) (lm V 3:Nat) 0 0 0 0=(!n && V == 0):=by
 unfold eqI
 have h:=lm_nz hV
 rw [← Bool.not_not (_ && _ && _ && _),h]
 cases n <;> simp [bne]
theorem own_1 (neg:Bool) (V bits:Nat) (text:ByteArray) (aL:Option Addr) (nL cL:Nat) (aK:Option Addr) (nK cK:Nat) (w:World) (R:Bool) (zz:Bool) (hz:eqI neg false (lm V 0:Nat) (lm V 1:Nat) (lm V 2:Nat) (lm V 3:Nat) 0 0 0 0=zz)
  (HR:Hid (R=(zz && decide (bits=0) && decide (text=⟨#[]⟩) && decide (nL=0) && decide (nK=0)))):Calls Tryz.prog 55 #[.agg #[.int .i64 1,.bool neg,.int .u64 (lm V 0:Nat),.int .u64 (lm V 1:Nat),.int .u64 (lm V 2:Nat),.int .u64 (lm V 3:Nat),.int .u64 (bits:Nat),.string text,.slice aL nL cL,.slice aK nK cK]] w fun e w'=>e=.returned (.bool R)∧Below w.heap.size w w':=by
 cases zz with
 | false=>
  have e:R=false:=by rw [HR.out];simp
  exact z21zk1
 | true=>
  by_cases hb:bits=0
  ·subst hb
   by_cases ht:text=⟨#[]⟩
   ·subst ht
    by_cases hl:nL=0
    ·subst hl
     by_cases hk:nK=0
     ·subst hk
      have e:R=true:=by rw [HR.out];simp
      exact z21zk3
     ·have hki:((nK:Int) == 0)=false:=by simpa using hk
      have e:R=false:=by rw [HR.out];simp [hk]
      exact z21zk1
    ·have hli:((nL:Int) == 0)=false:=by simpa using hl
     have e:R=false:=by rw [HR.out];simp [hl]
     exact z21zk1
   ·have hti:¬ text.toList=[]:=fun h=>ht (toList_nil h)
    have e:R=false:=by rw [HR.out];simp [ht]
    exact z21zk1
  ·have hbi:((bits:Int) == 0)=false:=by simpa using hb
   have e:R=false:=by rw [HR.out];simp [hb]
   exact z21zk1
theorem own_2 (neg:Bool) (V bits:Nat) (text:ByteArray) (aL:Option Addr) (nL cL:Nat) (aK:Option Addr) (nK cK:Nat) (w:World) (R:Bool) (zz:Bool) (hz:eqI neg false (lm V 0:Nat) (lm V 1:Nat) (lm V 2:Nat) (lm V 3:Nat) 0 0 0 0=zz)
  (HR:Hid (R=(zz && decide (bits≤1) && decide (text=⟨#[]⟩) && decide (nL=0) && decide (nK=0)))):Calls Tryz.prog 55 #[.agg #[.int .i64 2,.bool neg,.int .u64 (lm V 0:Nat),.int .u64 (lm V 1:Nat),.int .u64 (lm V 2:Nat),.int .u64 (lm V 3:Nat),.int .u64 (bits:Nat),.string text,.slice aL nL cL,.slice aK nK cK]] w fun e w'=>e=.returned (.bool R)∧Below w.heap.size w w':=by
 cases zz with
 | false=>
  have e:R=false:=by rw [HR.out];simp
  exact z21zk1
 | true=>
  by_cases hb:bits≤1
  ·have hbi:(bits:Int)≤1:=by omega
   by_cases ht:text=⟨#[]⟩
   ·subst ht
    by_cases hl:nL=0
    ·subst hl
     by_cases hk:nK=0
     ·subst hk
      have e:R=true:=by rw [HR.out];simp [hb]
      exact z21zk3
     ·have hki:((nK:Int) == 0)=false:=by simpa using hk
      have e:R=false:=by rw [HR.out];simp [hb,hk]
      exact z21zk1
    ·have hli:((nL:Int) == 0)=false:=by simpa using hl
     have e:R=false:=by rw [HR.out];simp [hb,hl]
     exact z21zk1
   ·have hti:¬ text.toList=[]:=fun h=>ht (toList_nil h)
    have e:R=false:=by rw [HR.out];simp [hb,ht]
    exact z21zk1
  ·have hbi:¬ (bits:Int)≤1:=by omega
   have e:R=false:=by rw [HR.out];simp [hb]
   exact z21zk1
theorem own_3 (neg:Bool) (V bits:Nat) (text:ByteArray) (aL:Option Addr) (nL cL:Nat) (aK:Option Addr) (nK cK:Nat) (w:World) (R:Bool) (zz:Bool) (hz:eqI neg false (lm V 0:Nat) (lm V 1:Nat) (lm V 2:Nat) (lm V 3:Nat) 0 0 0 0=zz)
  (r:Bool) (C1:Hid (∀ wr:World,Below w.heap.size w wr→Calls Tryz.prog 85 #[.agg #[.bool (neg ),.int .u64 (lm ( V) 0:Nat),.int .u64 (lm ( V) 1:Nat),.int .u64 (lm ( V) 2:Nat),.int .u64 (lm ( V) 3:Nat)]] wr fun e w'=>e=.returned (.bool r)∧Below wr.heap.size wr w'))
  (HR:Hid (R=(r && decide (bits=0) && decide (text=⟨#[]⟩) && decide (nL=0) && decide (nK=0)))):Calls Tryz.prog 55 #[.agg #[.int .i64 3,.bool neg,.int .u64 (lm V 0:Nat),.int .u64 (lm V 1:Nat),.int .u64 (lm V 2:Nat),.int .u64 (lm V 3:Nat),.int .u64 (bits:Nat),.string text,.slice aL nL cL,.slice aK nK cK]] w fun e w'=>e=.returned (.bool R)∧Below w.heap.size w w':=by
 have V0:=Lib.hid (show VBx (w.alloc (.cells #[.int .i64 3,.bool neg,.int .u64 (lm V 0:Nat),.int .u64 (lm V 1:Nat),.int .u64 (lm V 2:Nat),.int .u64 (lm V 3:Nat),.int .u64 (bits:Nat),.string text,.slice aL nL cL,.slice aK nK cK] 31)) w.heap.size 3 neg V bits text aL nL cL aK nK cK from ⟨by simp [go_sem]⟩)
 cases r with
 | false=>
  have e:R=false:=by rw [HR.out];simp
  subst e
  clear HR
  go_enter Tryz.func55,Tryz.ntmps55
  repeat any_goals (first|(go_at_call 85;with_reducible refine (C1.out _ zb2).mono ?_;rintro e w1 ⟨rfl,hb1⟩;(first|have V1:=Lib.hid (V0.out.below hb1)|have V1:=Lib.hid (V0.out.step hb1));obtain ⟨_,_,_,_,_,_,_,_,_,_⟩:=V1.out.all)|go_skip|go_guarded|go_step|go_upon|(dsimp only []))
  exact z21zk2
 | true=>
  by_cases hb:bits=0
  ·subst hb
   by_cases ht:text=⟨#[]⟩
   ·subst ht
    by_cases hl:nL=0
    ·subst hl
     by_cases hk:nK=0
     ·subst hk
      have e:R=true:=by rw [HR.out];simp
      subst e
      clear HR
      go_enter Tryz.func55,Tryz.ntmps55
      repeat any_goals (first|(go_at_call 85;with_reducible refine (C1.out _ zb2).mono ?_;rintro e w1 ⟨rfl,hb1⟩;(first|have V1:=Lib.hid (V0.out.below hb1)|have V1:=Lib.hid (V0.out.step hb1));obtain ⟨_,_,_,_,_,_,_,_,_,_⟩:=V1.out.all)|go_skip|go_guarded|go_step|go_upon|(dsimp only []))
      exact z21zk5
     ·have hki:((nK:Int) == 0)=false:=by simpa using hk
      have e:R=false:=by rw [HR.out];simp [hk]
      subst e
      clear HR
      go_enter Tryz.func55,Tryz.ntmps55
      repeat any_goals (first|(go_at_call 85;with_reducible refine (C1.out _ zb2).mono ?_;rintro e w1 ⟨rfl,hb1⟩;(first|have V1:=Lib.hid (V0.out.below hb1)|have V1:=Lib.hid (V0.out.step hb1));obtain ⟨_,_,_,_,_,_,_,_,_,_⟩:=V1.out.all)|go_skip|go_guarded|go_step|go_upon|(dsimp only []))
      exact z21zk2
    ·have hli:((nL:Int) == 0)=false:=by simpa using hl
     have e:R=false:=by rw [HR.out];simp [hl]
     subst e
     clear HR
     go_enter Tryz.func55,Tryz.ntmps55
     repeat any_goals (first|(go_at_call 85;with_reducible refine (C1.out _ zb2).mono ?_;rintro e w1 ⟨rfl,hb1⟩;(first|have V1:=Lib.hid (V0.out.below hb1)|have V1:=Lib.hid (V0.out.step hb1));obtain ⟨_,_,_,_,_,_,_,_,_,_⟩:=V1.out.all)|go_skip|go_guarded|go_step|go_upon|(dsimp only []))
     exact z21zk2
   ·have hti:¬ text.toList=[]:=fun h=>ht (toList_nil h)
    have e:R=false:=by rw [HR.out];simp [ht]
    subst e
    clear HR
    go_enter Tryz.func55,Tryz.ntmps55
    repeat any_goals (first|(go_at_call 85;with_reducible refine (C1.out _ zb2).mono ?_;rintro e w1 ⟨rfl,hb1⟩;(first|have V1:=Lib.hid (V0.out.below hb1)|have V1:=Lib.hid (V0.out.step hb1));obtain ⟨_,_,_,_,_,_,_,_,_,_⟩:=V1.out.all)|go_skip|go_guarded|go_step|go_upon|(dsimp only []))
    exact z21zk2
  ·have hbi:((bits:Int) == 0)=false:=by simpa using hb
   have e:R=false:=by rw [HR.out];simp [hb]
   subst e
   clear HR
   go_enter Tryz.func55,Tryz.ntmps55
   repeat any_goals (first|(go_at_call 85;with_reducible refine (C1.out _ zb2).mono ?_;rintro e w1 ⟨rfl,hb1⟩;(first|have V1:=Lib.hid (V0.out.below hb1)|have V1:=Lib.hid (V0.out.step hb1));obtain ⟨_,_,_,_,_,_,_,_,_,_⟩:=V1.out.all)|go_skip|go_guarded|go_step|go_upon|(dsimp only []))
   exact z21zk2
theorem own_4 (neg:Bool) (V bits:Nat) (text:ByteArray) (aL:Option Addr) (nL cL:Nat) (aK:Option Addr) (nK cK:Nat) (w:World) (R:Bool) (zz:Bool) (hz:eqI neg false (lm V 0:Nat) (lm V 1:Nat) (lm V 2:Nat) (lm V 3:Nat) 0 0 0 0=zz)
  (r:Bool) (C1:Hid (∀ wr:World,Below w.heap.size w wr→Calls Tryz.prog 86 #[.int .u64 (bits:Nat)] wr fun e w'=>e=.returned (.bool r)∧Below wr.heap.size wr w'))
  (HR:Hid (R=(zz && r && decide (text=⟨#[]⟩) && decide (nL=0) && decide (nK=0)))):Calls Tryz.prog 55 #[.agg #[.int .i64 4,.bool neg,.int .u64 (lm V 0:Nat),.int .u64 (lm V 1:Nat),.int .u64 (lm V 2:Nat),.int .u64 (lm V 3:Nat),.int .u64 (bits:Nat),.string text,.slice aL nL cL,.slice aK nK cK]] w fun e w'=>e=.returned (.bool R)∧Below w.heap.size w w':=by
 have V0:=Lib.hid (show VBx (w.alloc (.cells #[.int .i64 4,.bool neg,.int .u64 (lm V 0:Nat),.int .u64 (lm V 1:Nat),.int .u64 (lm V 2:Nat),.int .u64 (lm V 3:Nat),.int .u64 (bits:Nat),.string text,.slice aL nL cL,.slice aK nK cK] 31)) w.heap.size 4 neg V bits text aL nL cL aK nK cK from ⟨by simp [go_sem]⟩)
 cases zz with
 | false=>
  have e:R=false:=by rw [HR.out];simp
  subst e
  clear HR
  go_enter Tryz.func55,Tryz.ntmps55
  repeat any_goals (first|(go_at_call 86;with_reducible refine (C1.out _ zb2).mono ?_;rintro e w1 ⟨rfl,hb1⟩;(first|have V1:=Lib.hid (V0.out.below hb1)|have V1:=Lib.hid (V0.out.step hb1));obtain ⟨_,_,_,_,_,_,_,_,_,_⟩:=V1.out.all)|go_skip|go_guarded|go_step|go_upon|(dsimp only []))
  exact z21zk2
 | true=>
  cases r with
  | false=>
   have e:R=false:=by rw [HR.out];simp
   subst e
   clear HR
   go_enter Tryz.func55,Tryz.ntmps55
   repeat any_goals (first|(go_at_call 86;with_reducible refine (C1.out _ zb2).mono ?_;rintro e w1 ⟨rfl,hb1⟩;(first|have V1:=Lib.hid (V0.out.below hb1)|have V1:=Lib.hid (V0.out.step hb1));obtain ⟨_,_,_,_,_,_,_,_,_,_⟩:=V1.out.all)|go_skip|go_guarded|go_step|go_upon|(dsimp only []))
   exact z21zk2
  | true=>
   by_cases ht:text=⟨#[]⟩
   ·subst ht
    by_cases hl:nL=0
    ·subst hl
     by_cases hk:nK=0
     ·subst hk
      have e:R=true:=by rw [HR.out];simp
      subst e
      clear HR
      go_enter Tryz.func55,Tryz.ntmps55
      repeat any_goals (first|(go_at_call 86;with_reducible refine (C1.out _ zb2).mono ?_;rintro e w1 ⟨rfl,hb1⟩;(first|have V1:=Lib.hid (V0.out.below hb1)|have V1:=Lib.hid (V0.out.step hb1));obtain ⟨_,_,_,_,_,_,_,_,_,_⟩:=V1.out.all)|go_skip|go_guarded|go_step|go_upon|(dsimp only []))
      exact z21zk5
     ·have hki:((nK:Int) == 0)=false:=by simpa using hk
      have e:R=false:=by rw [HR.out];simp [hk]
      subst e
      clear HR
      go_enter Tryz.func55,Tryz.ntmps55
      repeat any_goals (first|(go_at_call 86;with_reducible refine (C1.out _ zb2).mono ?_;rintro e w1 ⟨rfl,hb1⟩;(first|have V1:=Lib.hid (V0.out.below hb1)|have V1:=Lib.hid (V0.out.step hb1));obtain ⟨_,_,_,_,_,_,_,_,_,_⟩:=V1.out.all)|go_skip|go_guarded|go_step|go_upon|(dsimp only []))
      exact z21zk2
    ·have hli:((nL:Int) == 0)=false:=by simpa using hl
     have e:R=false:=by rw [HR.out];simp [hl]
     subst e
     clear HR
     go_enter Tryz.func55,Tryz.ntmps55
     repeat any_goals (first|(go_at_call 86;with_reducible refine (C1.out _ zb2).mono ?_;rintro e w1 ⟨rfl,hb1⟩;(first|have V1:=Lib.hid (V0.out.below hb1)|have V1:=Lib.hid (V0.out.step hb1));obtain ⟨_,_,_,_,_,_,_,_,_,_⟩:=V1.out.all)|go_skip|go_guarded|go_step|go_upon|(dsimp only []))
     exact z21zk2
   ·have hti:¬ text.toList=[]:=fun h=>ht (toList_nil h)
    have e:R=false:=by rw [HR.out];simp [ht]
    subst e
    clear HR
    go_enter Tryz.func55,Tryz.ntmps55
    repeat any_goals (first|(go_at_call 86;with_reducible refine (C1.out _ zb2).mono ?_;rintro e w1 ⟨rfl,hb1⟩;(first|have V1:=Lib.hid (V0.out.below hb1)|have V1:=Lib.hid (V0.out.step hb1));obtain ⟨_,_,_,_,_,_,_,_,_,_⟩:=V1.out.all)|go_skip|go_guarded|go_step|go_upon|(dsimp only []))
    exact z21zk2
theorem own_5 (neg:Bool) (V bits:Nat) (text:ByteArray) (aL:Option Addr) (nL cL:Nat) (aK:Option Addr) (nK cK:Nat) (w:World) (R:Bool) (zz:Bool) (hz:eqI neg false (lm V 0:Nat) (lm V 1:Nat) (lm V 2:Nat) (lm V 3:Nat) 0 0 0 0=zz)
  (r:Bool) (C1:Hid (∀ wr:World,Below w.heap.size w wr→Calls Tryz.prog 87 #[.string text] wr fun e w'=>e=.returned (.bool r)∧Below wr.heap.size wr w'))
  (HR:Hid (R=(zz && decide (bits=0) && decide (nL=0) && decide (nK=0) && r))):Calls Tryz.prog 55 #[.agg #[.int .i64 5,.bool neg,.int .u64 (lm V 0:Nat),.int .u64 (lm V 1:Nat),.int .u64 (lm V 2:Nat),.int .u64 (lm V 3:Nat),.int .u64 (bits:Nat),.string text,.slice aL nL cL,.slice aK nK cK]] w fun e w'=>e=.returned (.bool R)∧Below w.heap.size w w':=by
 have V0:=Lib.hid (show VBx (w.alloc (.cells #[.int .i64 5,.bool neg,.int .u64 (lm V 0:Nat),.int .u64 (lm V 1:Nat),.int .u64 (lm V 2:Nat),.int .u64 (lm V 3:Nat),.int .u64 (bits:Nat),.string text,.slice aL nL cL,.slice aK nK cK] 31)) w.heap.size 5 neg V bits text aL nL cL aK nK cK from ⟨by simp [go_sem]⟩)
 cases zz with
 | false=>
  have e:R=false:=by rw [HR.out];simp
  subst e
  clear HR
  go_enter Tryz.func55,Tryz.ntmps55
  repeat any_goals (first|(go_at_call 87;with_reducible refine (C1.out _ zb2).mono ?_;rintro e w1 ⟨rfl,hb1⟩;(first|have V1:=Lib.hid (V0.out.below hb1)|have V1:=Lib.hid (V0.out.step hb1));obtain ⟨_,_,_,_,_,_,_,_,_,_⟩:=V1.out.all)|go_skip|go_guarded|go_step|go_upon|(dsimp only []))
  exact z21zk2
 | true=>
  by_cases hb:bits=0
  ·subst hb
   by_cases hl:nL=0
   ·subst hl
    by_cases hk:nK=0
    ·subst hk
     cases r with
     | false=>
      have e:R=false:=by rw [HR.out];simp
      subst e
      clear HR
      go_enter Tryz.func55,Tryz.ntmps55
      repeat any_goals (first|(go_at_call 87;with_reducible refine (C1.out _ zb2).mono ?_;rintro e w1 ⟨rfl,hb1⟩;(first|have V1:=Lib.hid (V0.out.below hb1)|have V1:=Lib.hid (V0.out.step hb1));obtain ⟨_,_,_,_,_,_,_,_,_,_⟩:=V1.out.all)|go_skip|go_guarded|go_step|go_upon|(dsimp only []))
      exact z21zk2
     | true=>
      have e:R=true:=by rw [HR.out];simp
      subst e
      clear HR
      go_enter Tryz.func55,Tryz.ntmps55
      repeat any_goals (first|(go_at_call 87;with_reducible refine (C1.out _ zb2).mono ?_;rintro e w1 ⟨rfl,hb1⟩;(first|have V1:=Lib.hid (V0.out.below hb1)|have V1:=Lib.hid (V0.out.step hb1));obtain ⟨_,_,_,_,_,_,_,_,_,_⟩:=V1.out.all)|go_skip|go_guarded|go_step|go_upon|(dsimp only []))
      exact z21zk5
    ·have hki:((nK:Int) == 0)=false:=by simpa using hk
     have e:R=false:=by rw [HR.out];simp [hk]
     subst e
     clear HR
     go_enter Tryz.func55,Tryz.ntmps55
     repeat any_goals (first|(go_at_call 87;with_reducible refine (C1.out _ zb2).mono ?_;rintro e w1 ⟨rfl,hb1⟩;(first|have V1:=Lib.hid (V0.out.below hb1)|have V1:=Lib.hid (V0.out.step hb1));obtain ⟨_,_,_,_,_,_,_,_,_,_⟩:=V1.out.all)|go_skip|go_guarded|go_step|go_upon|(dsimp only []))
     exact z21zk2
   ·have hli:((nL:Int) == 0)=false:=by simpa using hl
    have e:R=false:=by rw [HR.out];simp [hl]
    subst e
    clear HR
    go_enter Tryz.func55,Tryz.ntmps55
    repeat any_goals (first|(go_at_call 87;with_reducible refine (C1.out _ zb2).mono ?_;rintro e w1 ⟨rfl,hb1⟩;(first|have V1:=Lib.hid (V0.out.below hb1)|have V1:=Lib.hid (V0.out.step hb1));obtain ⟨_,_,_,_,_,_,_,_,_,_⟩:=V1.out.all)|go_skip|go_guarded|go_step|go_upon|(dsimp only []))
    exact z21zk2
  ·have hbi:((bits:Int) == 0)=false:=by simpa using hb
   have e:R=false:=by rw [HR.out];simp [hb]
   subst e
   clear HR
   go_enter Tryz.func55,Tryz.ntmps55
   repeat any_goals (first|(go_at_call 87;with_reducible refine (C1.out _ zb2).mono ?_;rintro e w1 ⟨rfl,hb1⟩;(first|have V1:=Lib.hid (V0.out.below hb1)|have V1:=Lib.hid (V0.out.step hb1));obtain ⟨_,_,_,_,_,_,_,_,_,_⟩:=V1.out.all)|go_skip|go_guarded|go_step|go_upon|(dsimp only []))
   exact z21zk2
theorem own_6 (neg:Bool) (V bits:Nat) (text:ByteArray) (aL:Option Addr) (nL cL:Nat) (aK:Option Addr) (nK cK:Nat) (w:World) (R:Bool) (zz:Bool) (hz:eqI neg false (lm V 0:Nat) (lm V 1:Nat) (lm V 2:Nat) (lm V 3:Nat) 0 0 0 0=zz)
  (HR:Hid (R=(zz && decide (bits=0) && decide (nL=0) && decide (nK=0)))):Calls Tryz.prog 55 #[.agg #[.int .i64 6,.bool neg,.int .u64 (lm V 0:Nat),.int .u64 (lm V 1:Nat),.int .u64 (lm V 2:Nat),.int .u64 (lm V 3:Nat),.int .u64 (bits:Nat),.string text,.slice aL nL cL,.slice aK nK cK]] w fun e w'=>e=.returned (.bool R)∧Below w.heap.size w w':=by
 cases zz with
 | false=>
  have e:R=false:=by rw [HR.out];simp
  exact z21zk1
 | true=>
  by_cases hb:bits=0
  ·subst hb
   by_cases hl:nL=0
   ·subst hl
    by_cases hk:nK=0
    ·subst hk
     have e:R=true:=by rw [HR.out];simp
     exact z21zk3
    ·have hki:((nK:Int) == 0)=false:=by simpa using hk
     have e:R=false:=by rw [HR.out];simp [hk]
     exact z21zk1
   ·have hli:((nL:Int) == 0)=false:=by simpa using hl
    have e:R=false:=by rw [HR.out];simp [hl]
    exact z21zk1
  ·have hbi:((bits:Int) == 0)=false:=by simpa using hb
   have e:R=false:=by rw [HR.out];simp [hb]
   exact z21zk1
theorem own_7 (neg:Bool) (V bits:Nat) (text:ByteArray) (aL:Option Addr) (nL cL:Nat) (aK:Option Addr) (nK cK:Nat) (w:World) (R:Bool) (zz:Bool) (hz:eqI neg false (lm V 0:Nat) (lm V 1:Nat) (lm V 2:Nat) (lm V 3:Nat) 0 0 0 0=zz)
  (HR:Hid (R=(zz && decide (bits=0) && decide (text=⟨#[]⟩) && decide (nK=0)))):Calls Tryz.prog 55 #[.agg #[.int .i64 7,.bool neg,.int .u64 (lm V 0:Nat),.int .u64 (lm V 1:Nat),.int .u64 (lm V 2:Nat),.int .u64 (lm V 3:Nat),.int .u64 (bits:Nat),.string text,.slice aL nL cL,.slice aK nK cK]] w fun e w'=>e=.returned (.bool R)∧Below w.heap.size w w':=by
 cases zz with
 | false=>
  have e:R=false:=by rw [HR.out];simp
  exact z21zk1
 | true=>
  by_cases hb:bits=0
  ·subst hb
   by_cases ht:text=⟨#[]⟩
   ·subst ht
    by_cases hk:nK=0
    ·subst hk
     have e:R=true:=by rw [HR.out];simp
     exact z21zk3
    ·have hki:((nK:Int) == 0)=false:=by simpa using hk
     have e:R=false:=by rw [HR.out];simp [hk]
     exact z21zk1
   ·have hti:¬ text.toList=[]:=fun h=>ht (toList_nil h)
    have e:R=false:=by rw [HR.out];simp [ht]
    exact z21zk1
  ·have hbi:((bits:Int) == 0)=false:=by simpa using hb
   have e:R=false:=by rw [HR.out];simp [hb]
   exact z21zk1
theorem own_else (kind:Int) (neg:Bool) (V bits:Nat) (text:ByteArray) (aL:Option Addr) (nL cL:Nat) (aK:Option Addr) (nK cK:Nat) (w:World)
  (h1:¬ kind=1) (h2:¬ kind=2) (h3:¬ kind=3) (h4:¬ kind=4) (h5:¬ kind=5) (h6:¬ kind=6) (h7:¬ kind=7) (h8:¬ kind=8) :
  Calls Tryz.prog 55 #[.agg #[.int .i64 kind,.bool neg,.int .u64 (lm V 0:Nat),.int .u64 (lm V 1:Nat),.int .u64 (lm V 2:Nat),.int .u64 (lm V 3:Nat),.int .u64 (bits:Nat),.string text,.slice aL nL cL,.slice aK nK cK]] w fun e w'=>e=.returned (.bool false)∧Below w.heap.size w w':=by
 go_enter Tryz.func55,Tryz.ntmps55
 repeat any_goals (first|go_skip|go_guarded|go_step|go_upon|(simp only [];done))
 exact z21zk2
theorem less_flip:∀ x y:List UInt8,(Op.bytesLess x y || x == y) = !Op.bytesLess y x
 | [],[]=>rfl
 | [],_ :: _=>rfl
 | _ :: _,[]=>rfl
 | a :: x,b :: y=>by
  have ih:=less_flip x y
  simp only [Op.bytesLess]
  by_cases h1:a < b
  ·have h2:¬ b < a:=by rw [UInt8.lt_iff_toNat_lt] at h1 ⊢;omega
   have h3:¬ b=a:=fun h=>by subst h;rw [UInt8.lt_iff_toNat_lt] at h1;omega
   simp [h1,h2,h3]
  ·by_cases h2:b < a
   ·have h3:¬ a=b:=fun h=>by subst h;rw [UInt8.lt_iff_toNat_lt] at h2;omega
    simp [h1,h2,h3]
   ·have h3:a=b:=by
     rw [UInt8.lt_iff_toNat_lt] at h1 h2
     exact UInt8.toNat_inj.1 z0c
    subst h3
    simp only [h1,decide_false,Bool.false_or,beq_self_eq_true,Bool.true_and,List.cons_beq_cons]
    exact ih
structure SKx (w':World) (p q:Addr) (s t:ByteArray):Prop where
 all:w'.cell? p=some (.string s)∧w'.cell? q=some (.string t)∧True∧True∧True
theorem SKx.below {w1 w2:World} {p q:Addr} {s t:ByteArray} (h:SKx w1 p q s t) (hb:Below w1.heap.size w1 w2):SKx w2 p q s t:=⟨keep_cell hb h.all.1,keep_cell hb h.all.2.1,trivial,trivial,trivial⟩
theorem own_8 (neg:Bool) (V bits:Nat) (text:ByteArray) (aL:Option Addr) (nL cL:Nat) (aK:Option Addr) (nK cK:Nat) (keys:Nat→ByteArray) (w:World) (R:Bool) (hcK:cK≤maxLen) (hlK:nK≤cK) (hks:∀ i,i < nK→(keys i).size≤4096)
  (zz:Bool) (hz:eqI neg false (lm V 0:Nat) (lm V 1:Nat) (lm V 2:Nat) (lm V 3:Nat) 0 0 0 0=zz)
  (hK:nK=0∨∃ b off,aK=some ⟨b,off,none⟩∧b < w.heap.size∧∀ i,i < nK→w.cell? ⟨b,off+i,none⟩=some (.string (keys i))∧(keys i).size≤maxLen)
  (HR:Hid (R=(riseB keys nK && zz && decide (bits=0) && decide (text=⟨#[]⟩) && decide (nK=nL)))) :
  Calls Tryz.prog 55 #[.agg #[.int .i64 8,.bool neg,.int .u64 (lm V 0:Nat),.int .u64 (lm V 1:Nat),.int .u64 (lm V 2:Nat),.int .u64 (lm V 3:Nat),.int .u64 (bits:Nat),.string text,.slice aL nL cL,.slice aK nK cK]] w fun e w'=>e=.returned (.bool R)∧Below w.heap.size w w':=by
 have HK:=Lib.hid hK
 have HS:=Lib.hid hks
 clear hK hks
 simp only [maxLen] at hcK
 have V0:=Lib.hid (show VBx (w.alloc (.cells #[.int .i64 8,.bool neg,.int .u64 (lm V 0:Nat),.int .u64 (lm V 1:Nat),.int .u64 (lm V 2:Nat),.int .u64 (lm V 3:Nat),.int .u64 (bits:Nat),.string text,.slice aL nL cL,.slice aK nK cK] 31)) w.heap.size 8 neg V bits text aL nL cL aK nK cK from ⟨by simp [go_sem]⟩)
 go_enter Tryz.func55,Tryz.ntmps55
 repeat any_goals (first|go_skip|go_guarded|go_step|go_upon|(simp only [];done))
 go_loopw [4] (fun i wr=>∃ k:Nat,k≤nK∧i=.int .i64 k∧anyN (badKey keys) k=false∧VBx wr w.heap.size 8 neg V bits text aL nL cL aK nK cK∧Below w.heap.size w wr) (fun i _=>nK - (intOf i).toNat)
 case atStart=>exact ⟨0,Nat.zero_le _,rfl,rfl,V0.out,zb2⟩
 case round=>
  clear V0
  obtain ⟨k,hk,rfl,hA,hV,hW⟩:=hrel
  have HA:=Lib.hid hA
  have V0:=Lib.hid hV
  obtain ⟨_,_,_,_,_,_,_,_,_,_⟩:=hV.all
  clear hA hV
  by_cases hkn:k < nK
  ·obtain ⟨b,off,rfl,hb,hc,hc1,-⟩:=key_two HK.out hkn hW
   have hs:=HS.out k hkn
   have i1:(k:Int) < (nK:Int):=by omega
   have i2:(0:Int)≤(k:Int):=by omega
   have i5:(k:Int).toNat=k:=rfl
   obtain ⟨x,hx⟩:∃ x:Bool,x=validS (keys k):=⟨_,rfl⟩
   have HVal:Hid (∀ w'':World,Calls Tryz.prog 87 #[.string (keys k)] w'' fun e w'=>e=.returned (.bool x)∧w'=w''):=Lib.hid fun w''=>by
    rw [hx]
    exact RValid_any (keys k) w'' z0c
   obtain ⟨y,hy⟩:∃ y:Bool,y=Op.bytesLess (keys (k - 1)).toList (keys k).toList:=⟨_,rfl⟩
   have hyy:(Op.bytesLess (keys k).toList (keys (k - 1)).toList || (keys k).toList == (keys (k - 1)).toList) = !y:=by rw [hy];exact less_flip _ _
   have HX:=Lib.hid (show badKey keys k=(!x || (decide (0 < k) && !y)) by rw [hx,hy];rfl)
   have K0:=Lib.hid (show SKx wr ⟨b,off+k,none⟩ ⟨b,off+(k - 1),none⟩ (keys k) (keys (k - 1)) from ⟨hc,hc1,trivial,trivial,trivial⟩)
   clear hx hy hs
   cases x with
   | false=>
    have e:R=false:=by rw [HR.out];unfold riseB;rw [anyN_of (p:=badKey keys) (k:=k) (by rw [HX.out];rfl) hkn];simp
    subst e
    go_upto_region 20 with fail
    (obtain ⟨C_,hC⟩:∃ C:World→Prop,C=fun w'=>Below (wr).heap.size (wr) w':=⟨_,rfl⟩;have HC:=Lib.hid hC;have hne:∀ p:Prop,(∀ w1:World,C_ w1→p)=p:=fun p=>propext ⟨fun h=>h (wr) z0i,fun h _ _=>h⟩;clear hC;refine wp_region_quiet_cls (C:=C_) z0a z0a z0g ?_)
    (go_big_quiet_want;go_big_quiet_op;go_big_quiet_on)
    (go_big_quiet_want;refine ⟨.slice (some ⟨b,off,none⟩) nK cK,fun w1 hw1=>?_,?_⟩;(rw [HC.out] at hw1;obtain ⟨_,_,_,_,_⟩:=(V0.out.below hw1).all;simp [Oper.quietAt,go_sem, *]);refine z21zs1 ?_;go_big_quiet_on)
    (go_big_quiet_want;go_big_quiet_op;go_big_quiet_on)
    (go_big_quiet_want;go_big_quiet_op;go_big_quiet_on)
    (go_big_quiet_want;refine ⟨.string (keys k),fun w1 hw1=>?_,?_⟩;(rw [HC.out] at hw1;obtain ⟨_,_,_,_,_⟩:=(K0.out.below hw1).all;simp [Oper.quietAt,go_sem, *]);refine z21zs1 ?_;go_big_quiet_on)
    (go_big_quiet_want;go_big_quiet_op;refine ⟨.bool false,fun w1 hw1=>?_,?_⟩;(rw [HC.out] at hw1 ⊢;with_reducible refine (HVal.out _).mono ?_;rintro e w4 ⟨rfl,rfl⟩;exact ⟨rfl,hw1⟩);go_big_quiet_on)
    exact z21zk6
   | true=>
    by_cases k0:k=0
    ·subst k0
     have K1:=Lib.hid (show SKx wr ⟨b,off,none⟩ ⟨b,off,none⟩ (keys 0) (keys 0) from K0.out)
     go_upto_region 20 with fail
     (obtain ⟨C_,hC⟩:∃ C:World→Prop,C=fun w'=>Below (wr).heap.size (wr) w':=⟨_,rfl⟩;have HC:=Lib.hid hC;have hne:∀ p:Prop,(∀ w1:World,C_ w1→p)=p:=fun p=>propext ⟨fun h=>h (wr) z0i,fun h _ _=>h⟩;clear hC;refine wp_region_quiet_cls (C:=C_) z0a z0a z0g ?_)
     (go_big_quiet_want;go_big_quiet_op;go_big_quiet_on)
     (go_big_quiet_want;refine ⟨.slice (some ⟨b,off,none⟩) nK cK,fun w1 hw1=>?_,?_⟩;(rw [HC.out] at hw1;obtain ⟨_,_,_,_,_⟩:=(V0.out.below hw1).all;simp [Oper.quietAt,go_sem, *]);refine z21zs1 ?_;go_big_quiet_on)
     (go_big_quiet_want;go_big_quiet_op;go_big_quiet_on)
     (go_big_quiet_want;go_big_quiet_op;go_big_quiet_on)
     (go_big_quiet_want;refine ⟨.string (keys 0),fun w1 hw1=>?_,?_⟩;(rw [HC.out] at hw1;obtain ⟨_,_,_,_,_⟩:=(K1.out.below hw1).all;simp [Oper.quietAt,go_sem, *]);refine z21zs1 ?_;go_big_quiet_on)
     (go_big_quiet_want;go_big_quiet_op;refine ⟨.bool true,fun w1 hw1=>?_,?_⟩;(rw [HC.out] at hw1 ⊢;with_reducible refine (HVal.out _).mono ?_;rintro e w4 ⟨rfl,rfl⟩;exact ⟨rfl,hw1⟩);go_big_quiet_on)
     repeat (first|go_big_quiet_skip|(refine wpQuiet_skip (by rfl) ?_;refine z21zs2 ?_)|(go_big_quiet_want;go_big_quiet_op;go_big_quiet_on))
     (refine wpQuiet_nil ?_;intro w2 hw2;rw [HC.out] at hw2)
     repeat any_goals (first|go_skip|go_guarded|go_step|go_upon|(simp only [];done))
     go_roundw
     case rel=>exact ⟨1,by omega,rfl,by simp only [anyN];rw [HX.out];rfl,V0.out.below hw2,below_trans hW hw2⟩
     case measure=>simp [intOf];omega
    ·have i6n:0 < k:=by omega
     have i6:(0:Int) < (k:Int):=by omega
     have i7:(0:Int)≤(k:Int) - 1:=by omega
     have i8:((k:Int) - 1).toNat=k - 1:=by omega
     have i9:(k:Int) - 1 < (nK:Int):=by omega
     cases y with
     | false=>
      have e:R=false:=by rw [HR.out];unfold riseB;rw [anyN_of (p:=badKey keys) (k:=k) (by rw [HX.out,decide_eq_true z0c];rfl) hkn];simp
      subst e
      go_upto_region 20 with fail
      (obtain ⟨C_,hC⟩:∃ C:World→Prop,C=fun w'=>Below (wr).heap.size (wr) w':=⟨_,rfl⟩;have HC:=Lib.hid hC;have hne:∀ p:Prop,(∀ w1:World,C_ w1→p)=p:=fun p=>propext ⟨fun h=>h (wr) z0i,fun h _ _=>h⟩;clear hC;refine wp_region_quiet_cls (C:=C_) z0a z0a z0g ?_)
      (go_big_quiet_want;go_big_quiet_op;go_big_quiet_on)
      (go_big_quiet_want;refine ⟨.slice (some ⟨b,off,none⟩) nK cK,fun w1 hw1=>?_,?_⟩;(rw [HC.out] at hw1;obtain ⟨_,_,_,_,_⟩:=(V0.out.below hw1).all;simp [Oper.quietAt,go_sem, *]);refine z21zs1 ?_;go_big_quiet_on)
      (go_big_quiet_want;go_big_quiet_op;go_big_quiet_on)
      (go_big_quiet_want;go_big_quiet_op;go_big_quiet_on)
      (go_big_quiet_want;refine ⟨.string (keys k),fun w1 hw1=>?_,?_⟩;(rw [HC.out] at hw1;obtain ⟨_,_,_,_,_⟩:=(K0.out.below hw1).all;simp [Oper.quietAt,go_sem, *]);refine z21zs1 ?_;go_big_quiet_on)
      (go_big_quiet_want;go_big_quiet_op;refine ⟨.bool true,fun w1 hw1=>?_,?_⟩;(rw [HC.out] at hw1 ⊢;with_reducible refine (HVal.out _).mono ?_;rintro e w4 ⟨rfl,rfl⟩;exact ⟨rfl,hw1⟩);go_big_quiet_on)
      (go_big_quiet_want;go_big_quiet_op;go_big_quiet_on)
      (go_big_quiet_want;go_big_quiet_op;go_big_quiet_on)
      (go_big_quiet_want;go_big_quiet_op;go_big_quiet_on)
      (go_big_quiet_want;refine ⟨.bool true,fun w1 hw1=>?_,?_⟩;(rw [HC.out] at hw1;obtain ⟨_,_,_,_,_⟩:=(K0.out.below hw1).all;simp [Oper.quietAt,go_sem, *]);refine z21zs1 ?_;go_big_quiet_on)
      (go_big_quiet_want;go_big_quiet_op;go_big_quiet_on)
      (go_big_quiet_want;go_big_quiet_op;go_big_quiet_on)
      (go_big_quiet_want;refine ⟨.slice (some ⟨b,off,none⟩) nK cK,fun w1 hw1=>?_,?_⟩;(rw [HC.out] at hw1;obtain ⟨_,_,_,_,_⟩:=(V0.out.below hw1).all;simp [Oper.quietAt,go_sem, *]);refine z21zs1 ?_;go_big_quiet_on)
      (go_big_quiet_want;go_big_quiet_op;go_big_quiet_on)
      (go_big_quiet_want;go_big_quiet_op;go_big_quiet_on)
      (go_big_quiet_want;refine ⟨.string (keys k),fun w1 hw1=>?_,?_⟩;(rw [HC.out] at hw1;obtain ⟨_,_,_,_,_⟩:=(K0.out.below hw1).all;simp [Oper.quietAt,go_sem, *]);refine z21zs1 ?_;go_big_quiet_on)
      (go_big_quiet_want;go_big_quiet_op;go_big_quiet_on)
      (go_big_quiet_want;refine ⟨.slice (some ⟨b,off,none⟩) nK cK,fun w1 hw1=>?_,?_⟩;(rw [HC.out] at hw1;obtain ⟨_,_,_,_,_⟩:=(V0.out.below hw1).all;simp [Oper.quietAt,go_sem, *]);refine z21zs1 ?_;go_big_quiet_on)
      (go_big_quiet_want;go_big_quiet_op;go_big_quiet_on)
      (go_big_quiet_want;go_big_quiet_op;go_big_quiet_on)
      (go_big_quiet_want;go_big_quiet_op;go_big_quiet_on)
      (go_big_quiet_want;refine ⟨.string (keys (k - 1)),fun w1 hw1=>?_,?_⟩;(rw [HC.out] at hw1;obtain ⟨_,_,_,_,_⟩:=(K0.out.below hw1).all;simp [Oper.quietAt,go_sem, *]);refine z21zs1 ?_;go_big_quiet_on)
      (go_big_quiet_want;refine ⟨.bool true,fun w1 hw1=>?_,?_⟩;(rw [HC.out] at hw1;obtain ⟨_,_,_,_,_⟩:=(K0.out.below hw1).all;simp [Oper.quietAt,go_sem, *]);refine z21zs1 ?_;go_big_quiet_on)
      exact z21zk6
     | true=>
      go_upto_region 20 with fail
      (obtain ⟨C_,hC⟩:∃ C:World→Prop,C=fun w'=>Below (wr).heap.size (wr) w':=⟨_,rfl⟩;have HC:=Lib.hid hC;have hne:∀ p:Prop,(∀ w1:World,C_ w1→p)=p:=fun p=>propext ⟨fun h=>h (wr) z0i,fun h _ _=>h⟩;clear hC;refine wp_region_quiet_cls (C:=C_) z0a z0a z0g ?_)
      (go_big_quiet_want;go_big_quiet_op;go_big_quiet_on)
      (go_big_quiet_want;refine ⟨.slice (some ⟨b,off,none⟩) nK cK,fun w1 hw1=>?_,?_⟩;(rw [HC.out] at hw1;obtain ⟨_,_,_,_,_⟩:=(V0.out.below hw1).all;simp [Oper.quietAt,go_sem, *]);refine z21zs1 ?_;go_big_quiet_on)
      (go_big_quiet_want;go_big_quiet_op;go_big_quiet_on)
      (go_big_quiet_want;go_big_quiet_op;go_big_quiet_on)
      (go_big_quiet_want;refine ⟨.string (keys k),fun w1 hw1=>?_,?_⟩;(rw [HC.out] at hw1;obtain ⟨_,_,_,_,_⟩:=(K0.out.below hw1).all;simp [Oper.quietAt,go_sem, *]);refine z21zs1 ?_;go_big_quiet_on)
      (go_big_quiet_want;go_big_quiet_op;refine ⟨.bool true,fun w1 hw1=>?_,?_⟩;(rw [HC.out] at hw1 ⊢;with_reducible refine (HVal.out _).mono ?_;rintro e w4 ⟨rfl,rfl⟩;exact ⟨rfl,hw1⟩);go_big_quiet_on)
      (go_big_quiet_want;go_big_quiet_op;go_big_quiet_on)
      (go_big_quiet_want;go_big_quiet_op;go_big_quiet_on)
      (go_big_quiet_want;go_big_quiet_op;go_big_quiet_on)
      (go_big_quiet_want;refine ⟨.bool true,fun w1 hw1=>?_,?_⟩;(rw [HC.out] at hw1;obtain ⟨_,_,_,_,_⟩:=(K0.out.below hw1).all;simp [Oper.quietAt,go_sem, *]);refine z21zs1 ?_;go_big_quiet_on)
      (go_big_quiet_want;go_big_quiet_op;go_big_quiet_on)
      (go_big_quiet_want;go_big_quiet_op;go_big_quiet_on)
      (go_big_quiet_want;refine ⟨.slice (some ⟨b,off,none⟩) nK cK,fun w1 hw1=>?_,?_⟩;(rw [HC.out] at hw1;obtain ⟨_,_,_,_,_⟩:=(V0.out.below hw1).all;simp [Oper.quietAt,go_sem, *]);refine z21zs1 ?_;go_big_quiet_on)
      (go_big_quiet_want;go_big_quiet_op;go_big_quiet_on)
      (go_big_quiet_want;go_big_quiet_op;go_big_quiet_on)
      (go_big_quiet_want;refine ⟨.string (keys k),fun w1 hw1=>?_,?_⟩;(rw [HC.out] at hw1;obtain ⟨_,_,_,_,_⟩:=(K0.out.below hw1).all;simp [Oper.quietAt,go_sem, *]);refine z21zs1 ?_;go_big_quiet_on)
      (go_big_quiet_want;go_big_quiet_op;go_big_quiet_on)
      (go_big_quiet_want;refine ⟨.slice (some ⟨b,off,none⟩) nK cK,fun w1 hw1=>?_,?_⟩;(rw [HC.out] at hw1;obtain ⟨_,_,_,_,_⟩:=(V0.out.below hw1).all;simp [Oper.quietAt,go_sem, *]);refine z21zs1 ?_;go_big_quiet_on)
      (go_big_quiet_want;go_big_quiet_op;go_big_quiet_on)
      (go_big_quiet_want;go_big_quiet_op;go_big_quiet_on)
      (go_big_quiet_want;go_big_quiet_op;go_big_quiet_on)
      (go_big_quiet_want;refine ⟨.string (keys (k - 1)),fun w1 hw1=>?_,?_⟩;(rw [HC.out] at hw1;obtain ⟨_,_,_,_,_⟩:=(K0.out.below hw1).all;simp [Oper.quietAt,go_sem, *]);refine z21zs1 ?_;go_big_quiet_on)
      (go_big_quiet_want;refine ⟨.bool false,fun w1 hw1=>?_,?_⟩;(rw [HC.out] at hw1;obtain ⟨_,_,_,_,_⟩:=(K0.out.below hw1).all;simp [Oper.quietAt,go_sem, *]);refine z21zs1 ?_;go_big_quiet_on)
      repeat (first|go_big_quiet_skip|(refine wpQuiet_skip (by rfl) ?_;refine z21zs2 ?_)|(go_big_quiet_want;go_big_quiet_op;go_big_quiet_on))
      (refine wpQuiet_nil ?_;intro w2 hw2;rw [HC.out] at hw2)
      repeat any_goals (first|go_skip|go_guarded|go_step|go_upon|(simp only [];done))
      go_roundw
      case rel=>exact ⟨k+1,by omega,rfl,by simp only [anyN];rw [HA.out,HX.out];simp,V0.out.below hw2,below_trans hW hw2⟩
      case measure=>simp [intOf];omega
  ·have hk':k=nK:=by omega
   subst hk'
   have i1:¬ (k:Int) < (k:Int):=by omega
   have hr:riseB keys k=true:=by unfold riseB;rw [HA.out];rfl
   rw [hr,Bool.true_and] at HR
   cases zz with
   | false=>
    have e:R=false:=by rw [HR.out];simp
    exact z21zk4
   | true=>
    by_cases hb:bits=0
    ·subst hb
     by_cases ht:text=⟨#[]⟩
     ·subst ht
      by_cases hkl:k=nL
      ·subst hkl
       have e:R=true:=by rw [HR.out];simp
       subst e
       clear HR
       repeat any_goals (first|go_skip|go_guarded|go_step|go_upon|(simp only [];done))
       exact bodyPost_ret (v:=.bool true) z0h rfl ⟨rfl,hW⟩
      ·have hki:((k:Int) == (nL:Int))=false:=by simp;omega
       have e:R=false:=by rw [HR.out];simp [hkl]
       exact z21zk4
     ·have hti:¬ text.toList=[]:=fun h=>ht (toList_nil h)
      have e:R=false:=by rw [HR.out];simp [ht]
      exact z21zk4
    ·have hbi:((bits:Int) == 0)=false:=by simpa using hb
     have e:R=false:=by rw [HR.out];simp [hb]
     exact z21zk4
def ownB (kind:Int) (neg:Bool) (V bits:Nat) (text:ByteArray) (nL nK:Nat) (keys:Nat→ByteArray):Bool:=midB kind neg V bits text nL nK keys && eqB kind neg V bits text
theorem own_zz {neg:Bool} {V:Nat} (hV:V < 2 ^ 256):eqI neg false (lm V 0:Nat) (lm V 1:Nat) (lm V 2:Nat) (lm V 3:Nat) 0 0 0 0=(decide (neg=false) && decide (V=0)):=by
 rw [eqI_zero hV]
 cases neg <;> by_cases h:V=0 <;> simp [h]
theorem Own_any {kind:Int} {neg:Bool} {V bits:Nat} {text:ByteArray} {aL:Option Addr} {nL cL:Nat} {kids:Nat→VT} {aK:Option Addr} {nK cK:Nat} {keys:Nat→ByteArray} (w:World) (hin:(VT.mk kind neg V bits text aL nL cL kids aK nK cK keys).In w) (hl:(VT.mk kind neg V bits text aL nL cL kids aK nK cK keys).long=false) :
  Calls Tryz.prog 55 #[.agg #[.int .i64 kind,.bool neg,.int .u64 (lm V 0:Nat),.int .u64 (lm V 1:Nat),.int .u64 (lm V 2:Nat),.int .u64 (lm V 3:Nat),.int .u64 (bits:Nat),.string text,.slice aL nL cL,.slice aK nK cK]] w fun e w'=>e=.returned (.bool (ownB kind neg V bits text nL nK keys))∧Below w.heap.size w w':=by
 obtain ⟨o,-,-,hK⟩:=hin
 have hz:=own_zz (neg:=neg) o.v
 have ht:text.size≤4096∧∀ i,i < nK→(keys i).size≤4096:=by
  simp only [VT.long] at hl
  split at hl
  ·cases hl
  ·rename_i h1
   split at hl
   ·cases hl
   ·rename_i h2
    refine ⟨by omega,fun i hi=>?_⟩
    have:=anyN_no (by simpa using h2) hi
    simpa using this
 by_cases k1:kind=1
 ·subst k1
  refine own_1 neg V bits text aL nL cL aK nK cK w _ _ hz (Lib.hid ?_)
  cases neg <;> by_cases h1:V=0 <;> by_cases h2:bits=0 <;> by_cases h3:text=⟨#[]⟩ <;> by_cases h4:nL=0 <;> by_cases h5:nK=0 <;> simp [ownB,midB,eqB,bareNeg,bareV,bareB,bareT,h1,h2,h3,h4,h5]
 by_cases k2:kind=2
 ·subst k2
  refine own_2 neg V bits text aL nL cL aK nK cK w _ _ hz (Lib.hid ?_)
  have hb:bits=bits % 2↔bits≤1:=by omega
  cases neg <;> by_cases h1:V=0 <;> by_cases h2:bits≤1 <;> by_cases h3:text=⟨#[]⟩ <;> by_cases h4:nL=0 <;> by_cases h5:nK=0 <;> simp [ownB,midB,eqB,bareNeg,bareV,bareB,bareT,h1,h2,h3,h4,h5,hb]
 by_cases k3:kind=3
 ·subst k3
  refine own_3 neg V bits text aL nL cL aK nK cK w _ _ hz (mayI neg V) (Lib.hid fun wr _=>RMayI_any neg V o.v wr) (Lib.hid ?_)
  cases hm:mayI neg V <;> by_cases h2:bits=0 <;> by_cases h3:text=⟨#[]⟩ <;> by_cases h4:nL=0 <;> by_cases h5:nK=0 <;> simp [ownB,midB,eqB,bareNeg,bareV,bareB,bareT,hm,h2,h3,h4,h5]
 by_cases k4:kind=4
 ·subst k4
  refine own_4 neg V bits text aL nL cL aK nK cK w _ _ hz (mayF bits) (Lib.hid fun wr _=>RMay_any bits o.b wr) (Lib.hid ?_)
  cases hm:mayF bits <;> cases neg <;> by_cases h1:V=0 <;> by_cases h3:text=⟨#[]⟩ <;> by_cases h4:nL=0 <;> by_cases h5:nK=0 <;> simp [ownB,midB,eqB,bareNeg,bareV,bareB,bareT,hm,h1,h3,h4,h5]
 by_cases k5:kind=5
 ·subst k5
  refine own_5 neg V bits text aL nL cL aK nK cK w _ _ hz (validS text) (Lib.hid fun wr _=>(RValid_any text wr z0c).mono fun e w' h=>⟨h.1,by rw [h.2];exact Below.refl _ _⟩) (Lib.hid ?_)
  cases hm:validS text <;> cases neg <;> by_cases h1:V=0 <;> by_cases h2:bits=0 <;> by_cases h4:nL=0 <;> by_cases h5:nK=0 <;> simp [ownB,midB,eqB,bareNeg,bareV,bareB,bareT,hm,h1,h2,h4,h5]
 by_cases k6:kind=6
 ·subst k6
  refine own_6 neg V bits text aL nL cL aK nK cK w _ _ hz (Lib.hid ?_)
  cases neg <;> by_cases h1:V=0 <;> by_cases h2:bits=0 <;> by_cases h4:nL=0 <;> by_cases h5:nK=0 <;> simp [ownB,midB,eqB,bareNeg,bareV,bareB,bareT,h1,h2,h4,h5]
 by_cases k7:kind=7
 ·subst k7
  refine own_7 neg V bits text aL nL cL aK nK cK w _ _ hz (Lib.hid ?_)
  cases neg <;> by_cases h1:V=0 <;> by_cases h2:bits=0 <;> by_cases h3:text=⟨#[]⟩ <;> by_cases h5:nK=0 <;> simp [ownB,midB,eqB,bareNeg,bareV,bareB,bareT,h1,h2,h3,h5]
 by_cases k8:kind=8
 ·subst k8
  refine own_8 neg V bits text aL nL cL aK nK cK keys w _ o.nc o.n ht.2 _ hz hK (Lib.hid ?_)
  cases hm:riseB keys nK <;> cases neg <;> by_cases h1:V=0 <;> by_cases h2:bits=0 <;> by_cases h3:text=⟨#[]⟩ <;> by_cases h5:nK=nL <;> (try rw [h5] at hm) <;> simp [ownB,midB,eqB,bareNeg,bareV,bareB,bareT,hm,h1,h2,h3,h5]
 have e:ownB kind neg V bits text nL nK keys=false:=by
  unfold ownB midB
  simp [k1,k2,k3,k4,k5,k6,k7,k8]
 rw [e]
 exact own_else kind neg V bits text aL nL cL aK nK cK w k1 k2 k3 k4 k5 k6 k7 k8
theorem Right_any:∀ (T:VT) (w:World),T.In w→T.long=false→Calls Tryz.prog 27 #[T.agg] w fun e w'=>e=.returned (.bool T.right)∧Below w.heap.size w w':=by
 intro T
 induction T with
 | nil=>exact fun w h=>h.elim
 | mk kind neg V bits text aL nL cL kids aK nK cK keys ih=>
  intro w hin hl
  have CO:Hid (∀ wr:World,Below w.heap.size w wr→Calls Tryz.prog 55 #[.agg #[.int .i64 kind,.bool neg,.int .u64 (lm V 0:Nat),.int .u64 (lm V 1:Nat),.int .u64 (lm V 2:Nat),.int .u64 (lm V 3:Nat),.int .u64 (bits:Nat),.string text,.slice aL nL cL,.slice aK nK cK]] wr fun e w'=>e=.returned (.bool (ownB kind neg V bits text nL nK keys))∧Below wr.heap.size wr w'):=Lib.hid fun wr hb=>Own_any wr (hin.below hb) hl
  have hkl:∀ i,i < nL→(kids i).long=false:=fun i hi=>VT.long_kid hl hi
  obtain ⟨o,hL,hk,-⟩:=hin
  simp only [VT.agg,VT.cells]
  obtain ⟨R,hR0⟩:∃ R,R=(VT.mk kind neg V bits text aL nL cL kids aK nK cK keys).right:=⟨_,rfl⟩
  rw [← hR0]
  obtain ⟨ow,how⟩:∃ ow,ow=ownB kind neg V bits text nL nK keys:=⟨_,rfl⟩
  have hR:R=(ow && !anyN (fun i => !(kids i).right) nL):=by rw [hR0,how];rfl
  clear hR0
  rw [← how] at CO
  have HL:=Lib.hid hL
  have HK:=Lib.hid hk
  have HR:=Lib.hid hR
  have HKL:=Lib.hid hkl
  have IH:=Lib.hid ih
  have hcL:=o.lc
  have hlL:=o.l
  clear hL hk hR ih how hkl hl
  simp only [maxLen] at hcL
  cases ow with
  | false=>
   have e:=HR.out
   rw [Bool.false_and] at e
   subst e
   go_enter Tryz.func27,Tryz.ntmps27
   repeat any_goals (first|(go_at_call 55;refine (CO.out _ zb2).mono ?_;rintro e w1 ⟨rfl,hb1⟩)|go_skip|go_guarded|go_step|go_upon|(dsimp only []))
   exact bodyPost_ret (v:=.bool false) (by simp [results,Tryz.results27,go_sem]) rfl ⟨rfl,zb2⟩
  | true=>
   go_enter Tryz.func27,Tryz.ntmps27
   repeat any_goals (first|(go_at_call 55;refine (CO.out _ zb2).mono ?_;rintro e w1 ⟨rfl,hb1⟩)|go_skip|go_guarded|go_step|go_upon|(dsimp only []))
   have h8:=keep_cell (p:=⟨w.heap.size,8,none⟩) (v:=.slice aL nL cL) hb1 z0z
   have hB1:Below w.heap.size w w1:=zb2
   go_loopw [3] (fun i wr=>∃ j:Nat,j≤nL∧i=.int .i64 j∧anyN (fun i => !(kids i).right) j=false∧wr.cell? ⟨w.heap.size,8,none⟩=some (.slice aL nL cL)∧Below w.heap.size w wr) (fun i _=>nL - (intOf i).toNat)
   case atStart=>exact ⟨0,Nat.zero_le _,rfl,rfl,h8,hB1⟩
   case round=>
    clear h8 hB1 hb1
    obtain ⟨j,hj,rfl,hA,h8,hW⟩:=hrel
    have HA2:=Lib.hid hA
    clear hA
    by_cases hjn:j < nL
    ·obtain ⟨b,off,kind',neg',V',bits',text',aL',nL',cL',kids',aK',nK',cK',keys',rfl,hb,hkid,⟨c0,c1,c2,c3,c4,c5,c6,c7,c8,c9⟩,hin'⟩:=kid_lit HL.out HK.out hjn hW
     have i1:(j:Int) < (nL:Int):=by omega
     have i2:(0:Int)≤(j:Int):=by omega
     have i5:(j:Int).toNat=j:=rfl
     obtain ⟨x,hx⟩:∃ x:Bool,x=(kids j).right:=⟨_,rfl⟩
     have HC:∀ w'':World,Below wr.heap.size wr w''→Calls Tryz.prog 27 #[(kids j).agg] w'' fun e w'=>e=.returned (.bool x)∧Below w''.heap.size w'' w':=fun w'' hb=>by
      have:=IH.out j w'' (hin'.below hb) (HKL.out j hjn)
      rwa [← hx] at this
     rw [hkid] at HC
     simp only [VT.agg,VT.cells] at HC
     have HC:=Lib.hid HC
     have HX:=Lib.hid hx
     clear hin' hkid hx
     cases x with
     | false=>
      have e:=HR.out
      rw [anyN_of (p:=fun i => !(kids i).right) (by rw [← HX.out];rfl) hjn] at e
      subst e
      repeat any_goals (first|(go_at_call 27;refine (HC.out _ zb2).mono ?_;rintro e w1 ⟨rfl,hb1⟩)|go_skip|go_guarded|go_step|go_upon|(dsimp only []))
      exact bodyPost_ret (v:=.bool false) (by simp [results,Tryz.results27,go_sem]) rfl ⟨rfl,zb2⟩
     | true=>
      repeat any_goals (first|(go_at_call 27;refine (HC.out _ zb2).mono ?_;rintro e w1 ⟨rfl,hb1⟩)|go_skip|go_guarded|go_step|go_upon|(dsimp only []))
      go_roundw
      case rel=>exact ⟨j+1,by omega,rfl,by simp only [anyN];rw [HA2.out,← HX.out];rfl,keep_cell hb1 (keep_cell (w1:=wr) zb2 h8),zb2⟩
      case measure=>simp [intOf];omega
    ·have hj':j=nL:=by omega
     subst hj'
     have i1:¬ (j:Int) < (j:Int):=by omega
     have e:R=true:=by rw [HR.out,HA2.out];rfl
     subst e
     repeat any_goals (first|go_skip|go_guarded|go_step|go_upon|(simp only [];done))
     exact bodyPost_ret (v:=.bool true) (by simp [results,Tryz.results27,go_sem]) rfl ⟨rfl,hW⟩
structure RMayC (w:World) (v:Value) (D N:Nat) (l r:Bool):Prop where
 c1:∀ w':World,Below w.heap.size w w'→Calls Tryz.prog 25 #[v] w' fun e w2=>e=.returned (.int .i64 (D:Nat))∧Below w'.heap.size w' w2
 c2:∀ w':World,Below w.heap.size w w'→Calls Tryz.prog 14 #[v] w' fun e w2=>e=.returned (.int .i64 (N:Nat))∧Below w'.heap.size w' w2
 c3:∀ w':World,Below w.heap.size w w'→Calls Tryz.prog 26 #[v] w' fun e w2=>e=.returned (.bool l)∧Below w'.heap.size w' w2
 c4:l=false→∀ w':World,Below w.heap.size w w'→Calls Tryz.prog 27 #[v] w' fun e w2=>e=.returned (.bool r)∧Below w'.heap.size w' w2
theorem RMay_walk (kind:Int) (neg:Bool) (V bits:Nat) (text:ByteArray) (aL:Option Addr) (nL cL:Nat) (aK:Option Addr) (nK cK:Nat) (D N:Nat) (l r:Bool) (w:World) (hD:D < 4611686018427387904) (hN:N < 4611686018427387904) (C:Hid (RMayC w (.agg #[.int .i64 kind,.bool neg,.int .u64 (lm V 0:Nat),.int .u64 (lm V 1:Nat),.int .u64 (lm V 2:Nat),.int .u64 (lm V 3:Nat),.int .u64 (bits:Nat),.string text,.slice aL nL cL,.slice aK nK cK]) D N l r)) :
  Calls Tryz.prog 15 #[.agg #[.int .i64 kind,.bool neg,.int .u64 (lm V 0:Nat),.int .u64 (lm V 1:Nat),.int .u64 (lm V 2:Nat),.int .u64 (lm V 3:Nat),.int .u64 (bits:Nat),.string text,.slice aL nL cL,.slice aK nK cK]] w fun e w'=>e=.returned (.int .i64 (if 16 < D then 4 else if 10000 < N∨l=true then 8 else if r=true then 0 else 1))∧Below w.heap.size w w':=by
 have V0:=Lib.hid (show VBx (w.alloc (.cells #[.int .i64 kind,.bool neg,.int .u64 (lm V 0:Nat),.int .u64 (lm V 1:Nat),.int .u64 (lm V 2:Nat),.int .u64 (lm V 3:Nat),.int .u64 (bits:Nat),.string text,.slice aL nL cL,.slice aK nK cK] 31)) w.heap.size kind neg V bits text aL nL cL aK nK cK from ⟨by simp [go_sem]⟩)
 by_cases h1:16 < D
 ·rw [if_pos h1]
  have h1i:(16:Int) < (D:Int):=by omega
  go_enter Tryz.func15,Tryz.ntmps15
  repeat any_goals (first|(go_at_call 25;with_reducible refine (C.out.c1 _ zb2).mono ?_;rintro e w1 ⟨rfl,hb1⟩;(first|have V1:=Lib.hid (V0.out.below hb1)|have V1:=Lib.hid (V0.out.step hb1));obtain ⟨_,_,_,_,_,_,_,_,_,_⟩:=V1.out.all)|go_skip|go_guarded|go_step|go_upon|(dsimp only []))
  exact bodyPost_ret (v:=.int .i64 4) (by simp [results,Tryz.results15,go_sem]) rfl ⟨rfl,zb2⟩
 ·rw [if_neg h1]
  have h1i:¬ (16:Int) < (D:Int):=by omega
  by_cases h2:10000 < N
  ·rw [if_pos (.inl h2)]
   have h2i:(10000:Int) < (N:Int):=by omega
   go_enter Tryz.func15,Tryz.ntmps15
   repeat any_goals (first|(go_at_call 25;with_reducible refine (C.out.c1 _ zb2).mono ?_;rintro e w1 ⟨rfl,hb1⟩;(first|have V1:=Lib.hid (V0.out.below hb1)|have V1:=Lib.hid (V0.out.step hb1));obtain ⟨_,_,_,_,_,_,_,_,_,_⟩:=V1.out.all)|(go_at_call 14;with_reducible refine (C.out.c2 _ zb2).mono ?_;rintro e w2 ⟨rfl,hb2⟩;(first|have V2:=Lib.hid (V1.out.below hb2)|have V2:=Lib.hid (V1.out.step hb2));obtain ⟨_,_,_,_,_,_,_,_,_,_⟩:=V2.out.all)|go_skip|go_guarded|go_step|go_upon|(dsimp only []))
   exact bodyPost_ret (v:=.int .i64 8) (by simp [results,Tryz.results15,go_sem]) rfl ⟨rfl,zb2⟩
  ·have h2i:¬ (10000:Int) < (N:Int):=by omega
   cases l with
   | true=>
    rw [if_pos (.inr rfl)]
    go_enter Tryz.func15,Tryz.ntmps15
    repeat any_goals (first|(go_at_call 25;with_reducible refine (C.out.c1 _ zb2).mono ?_;rintro e w1 ⟨rfl,hb1⟩;(first|have V1:=Lib.hid (V0.out.below hb1)|have V1:=Lib.hid (V0.out.step hb1));obtain ⟨_,_,_,_,_,_,_,_,_,_⟩:=V1.out.all)|(go_at_call 14;with_reducible refine (C.out.c2 _ zb2).mono ?_;rintro e w2 ⟨rfl,hb2⟩;(first|have V2:=Lib.hid (V1.out.below hb2)|have V2:=Lib.hid (V1.out.step hb2));obtain ⟨_,_,_,_,_,_,_,_,_,_⟩:=V2.out.all)|(go_at_call 26;with_reducible refine (C.out.c3 _ zb2).mono ?_;rintro e w3 ⟨rfl,hb3⟩;(first|have V3:=Lib.hid (V2.out.below hb3)|have V3:=Lib.hid (V2.out.step hb3));obtain ⟨_,_,_,_,_,_,_,_,_,_⟩:=V3.out.all)|go_skip|go_guarded|go_step|go_upon|(dsimp only []))
    exact bodyPost_ret (v:=.int .i64 8) (by simp [results,Tryz.results15,go_sem]) rfl ⟨rfl,zb2⟩
   | false=>
    rw [if_neg (fun h=>h.elim h2 Bool.false_ne_true)]
    cases r with
    | true=>
     rw [if_pos rfl]
     go_enter Tryz.func15,Tryz.ntmps15
     repeat any_goals (first|(go_at_call 25;with_reducible refine (C.out.c1 _ zb2).mono ?_;rintro e w1 ⟨rfl,hb1⟩;(first|have V1:=Lib.hid (V0.out.below hb1)|have V1:=Lib.hid (V0.out.step hb1));obtain ⟨_,_,_,_,_,_,_,_,_,_⟩:=V1.out.all)|(go_at_call 14;with_reducible refine (C.out.c2 _ zb2).mono ?_;rintro e w2 ⟨rfl,hb2⟩;(first|have V2:=Lib.hid (V1.out.below hb2)|have V2:=Lib.hid (V1.out.step hb2));obtain ⟨_,_,_,_,_,_,_,_,_,_⟩:=V2.out.all)|(go_at_call 26;with_reducible refine (C.out.c3 _ zb2).mono ?_;rintro e w3 ⟨rfl,hb3⟩;(first|have V3:=Lib.hid (V2.out.below hb3)|have V3:=Lib.hid (V2.out.step hb3));obtain ⟨_,_,_,_,_,_,_,_,_,_⟩:=V3.out.all)|(go_at_call 27;refine (C.out.c4 rfl _ zb2).mono ?_;rintro e w4 ⟨rfl,hb4⟩)|go_skip|go_guarded|go_step|go_upon|(dsimp only []))
     exact bodyPost_ret (v:=.int .i64 0) (by simp [results,Tryz.results15,go_sem]) rfl ⟨rfl,zb2⟩
    | false=>
     rw [if_neg Bool.false_ne_true]
     go_enter Tryz.func15,Tryz.ntmps15
     repeat any_goals (first|(go_at_call 25;with_reducible refine (C.out.c1 _ zb2).mono ?_;rintro e w1 ⟨rfl,hb1⟩;(first|have V1:=Lib.hid (V0.out.below hb1)|have V1:=Lib.hid (V0.out.step hb1));obtain ⟨_,_,_,_,_,_,_,_,_,_⟩:=V1.out.all)|(go_at_call 14;with_reducible refine (C.out.c2 _ zb2).mono ?_;rintro e w2 ⟨rfl,hb2⟩;(first|have V2:=Lib.hid (V1.out.below hb2)|have V2:=Lib.hid (V1.out.step hb2));obtain ⟨_,_,_,_,_,_,_,_,_,_⟩:=V2.out.all)|(go_at_call 26;with_reducible refine (C.out.c3 _ zb2).mono ?_;rintro e w3 ⟨rfl,hb3⟩;(first|have V3:=Lib.hid (V2.out.below hb3)|have V3:=Lib.hid (V2.out.step hb3));obtain ⟨_,_,_,_,_,_,_,_,_,_⟩:=V3.out.all)|(go_at_call 27;refine (C.out.c4 rfl _ zb2).mono ?_;rintro e w4 ⟨rfl,hb4⟩)|go_skip|go_guarded|go_step|go_upon|(dsimp only []))
     exact bodyPost_ret (v:=.int .i64 1) (by simp [results,Tryz.results15,go_sem]) rfl ⟨rfl,zb2⟩
theorem RMayV_any (T:VT) (w:World) (hin:T.In w) (hN:T.nodes < 4611686018427387904) :
  Calls Tryz.prog 15 #[T.agg] w fun e w'=>e=.returned (.int .i64 T.may)∧Below w.heap.size w w':=by
 have C:Hid (RMayC w T.agg T.depth T.nodes T.long T.right):=Lib.hid ⟨fun w' hb=>RDepth_any T w' (hin.below hb) hN,fun w' hb=>RNodes_any T w' (hin.below hb) hN,fun w' hb=>RLong_any T w' (hin.below hb),fun hl w' hb=>Right_any T w' (hin.below hb) hl⟩
 have hD:=T.depth_nodes
 unfold VT.may
 cases T with
 | nil=>exact hin.elim
 | mk kind neg V bits text aL nL cL kids aK nK cK keys=>exact RMay_walk kind neg V bits text aL nL cL aK nK cK _ _ _ _ w z0c hN C
end Go.Proofs.YtfondldmmcmloaaGreatDoor
