/- Rh6. -/
import Derived.Test.YtfondldmmcmloaaGreatDoorPbA1
set_option maxRecDepth 1000000
set_option maxHeartbeats 8000000
namespace Go.Proofs.YtfondldmmcmloaaGreatDoor
open Go.RowKit
theorem top_digit (A i:Nat):A / 2 ^ (32 * i)=A / 2 ^ (32 * (i+1)) * 4294967296+dig A i:=by
 unfold dig
 rw [show 32 * (i+1)=32 * i+32 from by omega,Nat.pow_add,← Nat.div_div_eq_div_mul,show (2:Nat) ^ 32=4294967296 from by decide]
 exact (Nat.div_add_mod' _ _).symm
theorem dcmp_lt {A B i:Nat} (h:A / 2 ^ (32 * (i+1))=B / 2 ^ (32 * (i+1))) (hl:dig A i < dig B i):cmpV A B = -1:=by
 have:A < B:=lt_of_top (k:=2 ^ (32 * i)) (by rw [top_digit A,top_digit B,h];omega)
 unfold cmpV
 rw [if_pos this]
theorem dcmp_gt {A B i:Nat} (h:A / 2 ^ (32 * (i+1))=B / 2 ^ (32 * (i+1))) (hl:dig B i < dig A i):cmpV A B=1:=by
 have:B < A:=lt_of_top (k:=2 ^ (32 * i)) (by rw [top_digit A,top_digit B,h];omega)
 unfold cmpV
 rw [if_neg z0c,if_pos this]
theorem dcmp_same {A B:Nat} (h:A / 2 ^ (32 * 0)=B / 2 ^ (32 * 0)):cmpV A B=0:=by
 rw [Nat.mul_zero,Nat.pow_zero,Nat.div_one,Nat.div_one] at h
 subst h
 unfold cmpV
 rw [if_neg (Nat.lt_irrefl _),if_neg (Nat.lt_irrefl _)]
theorem lt_of_dl {A B:Nat} (h:dl A < dl B):A < B:=by
 apply Nat.lt_of_not_le
 intro h2
 have h3:=bl_mono h2
 unfold dl at h
 omega
theorem cmp_shorter {A B:Nat} (h:dl A < dl B):cmpV A B = -1:=by
 unfold cmpV
 rw [if_pos (lt_of_dl h)]
theorem cmp_longer {A B:Nat} (h:dl B < dl A):cmpV A B=1:=by
 have:=lt_of_dl h
 unfold cmpV
 rw [if_neg z0c,if_pos this]
/-- **Cmp.** -/
theorem DCmp_any (v1 v2:Value) (n1 n2 A B:Nat) (w:World) (h1:DN w v1 n1 A) (h2:DN w v2 n2 B) :
  Calls Tryz.prog 124 #[v1,v2] w fun e w'=>e=.returned (.int .i64 (cmpV A B))∧Below w.heap.size w w':=by
 obtain ⟨V,hV⟩:∃ V,V=cmpV A B:=⟨_,rfl⟩
 rw [← hV]
 have HV:=Lib.hid hV
 have H:=Lib.hid (And.intro h1 h2)
 clear hV h1 h2
 go_enter Tryz.func124,Tryz.ntmps124
 go_upto_region 2 with (first|(go_at_call 125;with_reducible refine (trim_any _ _ _ _ H.out.1).mono ?_;rintro e w' ⟨⟨u1,rfl,hu1⟩,rfl⟩)|(go_at_call 125;with_reducible refine (trim_any _ _ _ _ H.out.2).mono ?_;rintro e w' ⟨⟨u2,rfl,hu2⟩,rfl⟩))
 obtain ⟨hA,hl1,o1,p1,rfl,hp1,hm1,hcell1⟩:=hu1
 obtain ⟨hB,hl2,o2,p2,rfl,hp2,hm2,hcell2⟩:=hu2
 obtain ⟨n,hn⟩:∃ n,n=dl A:=⟨_,rfl⟩
 obtain ⟨m,hm⟩:∃ n,n=dl B:=⟨_,rfl⟩
 rw [← hn] at hA hl1 hp1 hcell1 ⊢
 rw [← hm] at hB hl2 hp2 hcell2 ⊢
 have NH:=Lib.hid (And.intro hn (And.intro hm (And.intro hA (And.intro hB (And.intro hcell1 hcell2)))))
 clear hn hm hA hB hcell1 hcell2
 by_cases c1:n < m
 ·have c1i:((n:Int) != (m:Int))=true:=by simp;omega
  have c1j:(n:Int) < (m:Int):=by omega
  have e:=cmp_shorter (A:=A) (B:=B) (by rw [← NH.out.1,← NH.out.2.1];exact c1)
  rw [← HV.out] at e
  subst e
  repeat any_goals (first|go_skip|go_guarded|go_step|go_upon|(simp only [];done))
  exact bodyPost_ret (v:=.int .i64 (-1)) (by simp [results,Tryz.results124,go_sem]) rfl ⟨rfl,Below.refl _ _⟩
 ·by_cases c2:m < n
  ·have c1i:((n:Int) != (m:Int))=true:=by simp;omega
   have c1j:¬ (n:Int) < (m:Int):=by omega
   have e:=cmp_longer (A:=A) (B:=B) (by rw [← NH.out.1,← NH.out.2.1];exact c2)
   rw [← HV.out] at e
   subst e
   repeat any_goals (first|go_skip|go_guarded|go_step|go_upon|(simp only [];done))
   exact bodyPost_ret (v:=.int .i64 1) (by simp [results,Tryz.results124,go_sem]) rfl ⟨rfl,Below.refl _ _⟩
  ·have hnm:m=n:=by omega
   subst hnm
   have c1i:((m:Int) != (m:Int))=false:=by simp
   clear c1 c2
   repeat any_goals (first|go_skip|go_guarded|go_step|go_upon|(simp only [];done))
   go_loopw [5] (fun i wr=>∃ k:Nat,k≤m∧i=.int .i64 ((k:Int) - 1)∧A / 2 ^ (32 * k)=B / 2 ^ (32 * k)∧Below w.heap.size w wr) (fun i _=>(intOf i+1).toNat)
   case atStart=>
    refine ⟨m,Nat.le_refl _,rfl,?_,Below.refl _ _⟩
    rw [Nat.div_eq_of_lt NH.out.2.2.1,Nat.div_eq_of_lt NH.out.2.2.2.1]
   case round=>
    obtain ⟨k,hk,rfl,ht,hW⟩:=hrel
    have TH:=Lib.hid ht
    clear ht
    by_cases c0:k=0
    ·subst c0
     have e:=dcmp_same TH.out
     rw [← HV.out] at e
     subst e
     repeat any_goals (first|go_skip|go_guarded|go_step|go_upon|(simp only [];done))
     exact bodyPost_ret (v:=.int .i64 0) (by simp [results,Tryz.results124,go_sem]) rfl ⟨rfl,hW⟩
    ·obtain ⟨i,rfl⟩:∃ i,k=i+1:=⟨k - 1,by omega⟩
     rw [show ((i+1:Nat):Int) - 1=(i:Int) from by omega]
     obtain ⟨b1,rfl,hb1,hce1⟩:=NH.out.2.2.2.2.1 z0c
     obtain ⟨b2,rfl,hb2,hce2⟩:=NH.out.2.2.2.2.2 z0c
     have ca:=(hW.cell (p:=⟨b1,i,none⟩) hb1).trans (hce1 i z0c)
     have cb:=(hW.cell (p:=⟨b2,i,none⟩) hb2).trans (hce2 i z0c)
     obtain ⟨x,hx⟩:∃ x,x=dig A i:=⟨_,rfl⟩
     obtain ⟨y,hy⟩:∃ x,x=dig B i:=⟨_,rfl⟩
     rw [← hx] at ca
     rw [← hy] at cb
     have i1:(i:Int) < (m:Int):=by omega
     have i2:(0:Int)≤(i:Int):=by omega
     have i5:(i:Int).toNat=i:=rfl
     have G:=Lib.hid (And.intro hx hy)
     have hW1:=hW.drew
     have hW2:=hW1.drew
     clear hx hy c0 hce1 hce2
     by_cases c1:x < y
     ·have c1j:(x:Int) < (y:Int):=by omega
      have e:=dcmp_lt TH.out (by rw [← G.out.1,← G.out.2];exact c1)
      rw [← HV.out] at e
      subst e
      repeat any_goals (first|go_skip|go_guarded|go_step|go_upon|(simp only [];done))
      go_region
      repeat any_goals (first|go_skip|go_guarded|go_step|go_upon|(simp only [];done))
      exact bodyPost_ret (v:=.int .i64 (-1)) (by simp [results,Tryz.results124,go_sem]) rfl ⟨rfl,hW1⟩
     ·by_cases c2:y < x
      ·have c1j:¬ (x:Int) < (y:Int):=by omega
       have c2j:(y:Int) < (x:Int):=by omega
       have e:=dcmp_gt TH.out (by rw [← G.out.1,← G.out.2];exact c2)
       rw [← HV.out] at e
       subst e
       repeat any_goals (first|go_skip|go_guarded|go_step|go_upon|(simp only [];done))
       go_region
       repeat any_goals (first|go_skip|go_guarded|go_step|go_upon|(simp only [];done))
       go_region
       repeat any_goals (first|go_skip|go_guarded|go_step|go_upon|(simp only [];done))
       exact bodyPost_ret (v:=.int .i64 1) (by simp [results,Tryz.results124,go_sem]) rfl ⟨rfl,hW2⟩
      ·have c1j:¬ (x:Int) < (y:Int):=by omega
       have c2j:¬ (y:Int) < (x:Int):=by omega
       have e:A / 2 ^ (32 * i)=B / 2 ^ (32 * i):=by
        rw [top_digit A,top_digit B,TH.out,← G.out.1,← G.out.2,show x=y from by omega]
       have E:=Lib.hid e
       clear e c1 c2
       repeat any_goals (first|go_skip|go_guarded|go_step|go_upon|(simp only [];done))
       go_region
       repeat any_goals (first|go_skip|go_guarded|go_step|go_upon|(simp only [];done))
       go_region
       repeat any_goals (first|go_skip|go_guarded|go_step|go_upon|(simp only [];done))
       go_roundw
       case rel=>exact ⟨i,by omega,by go_num,E.out,hW2⟩
       case measure=>first|(simp [intOf];done)|(simp [intOf];omega)
theorem CmpI_any (v1 v2:Value) (A B:Nat) (w:World) (h1:IsD w v1 A) (h2:IsD w v2 B) :
  Calls Tryz.prog 124 #[v1,v2] w fun e w'=>e=.returned (.int .i64 (cmpV A B))∧Below w.heap.size w w':=
 DCmp_any v1 v2 _ _ A B w h1 h2
structure RxC (neg:Bool) (V l t:Nat) (m:Bool):Prop where
 c1:∀ w:World,Calls Tryz.prog 109 #[.agg #[.int .u64 (lm (V) 0:Nat),.int .u64 (lm (V) 1:Nat),.int .u64 (lm (V) 2:Nat),.int .u64 (lm (V) 3:Nat)]] w fun e w'=>∃ v,e=.returned v∧IsD w' v V∧Below w.heap.size w w'
 c2:∀ w:World,Calls Tryz.prog 85 #[.agg #[.bool (neg ),.int .u64 (lm ( V) 0:Nat),.int .u64 (lm ( V) 1:Nat),.int .u64 (lm ( V) 2:Nat),.int .u64 (lm ( V) 3:Nat)]] w fun e w'=>e=.returned (.bool m)∧Below w.heap.size w w'
 c3:∀ (v:Value) (w:World),IsD w v V→Calls Tryz.prog 110 #[v] w fun e w'=>e=.returned (.int .i64 (l:Nat))∧w=w'
 c4:∀ (v:Value) (w:World),IsD w v V→Calls Tryz.prog 111 #[v] w fun e w'=>e=.returned (.int .i64 (t:Nat))∧w=w'
theorem RExact_no (neg:Bool) (V l t:Nat) (w:World) (C:Hid (RxC neg V l t false)) :
  Calls Tryz.prog 96 #[.agg #[.bool (neg ),.int .u64 (lm ( V) 0:Nat),.int .u64 (lm ( V) 1:Nat),.int .u64 (lm ( V) 2:Nat),.int .u64 (lm ( V) 3:Nat)]] w fun e w'=>e=.returned (.bool false)∧Below w.heap.size w w':=by
 go_enter Tryz.func96,Tryz.ntmps96
 repeat any_goals (first|(go_at_call 109;with_reducible refine (C.out.c1 _).mono ?_;rintro e w1 ⟨v1,rfl,hv1,hb1⟩;have hl_w1_0:w.heap.size < w1.heap.size:=z0u;have c_w1_0_0:=(hb1).cell (p:=⟨w.heap.size,0,none⟩) z0b;simp [go_sem] at c_w1_0_0;have f_w1_0_0:=(hb1).frozen (p:=⟨w.heap.size,0,none⟩) z0b;simp [go_sem] at f_w1_0_0;have c_w1_0_1:=(hb1).cell (p:=⟨w.heap.size,1,none⟩) z0b;simp [go_sem] at c_w1_0_1;have f_w1_0_1:=(hb1).frozen (p:=⟨w.heap.size,1,none⟩) z0b;simp [go_sem] at f_w1_0_1;have c_w1_0_2:=(hb1).cell (p:=⟨w.heap.size,2,none⟩) z0b;simp [go_sem] at c_w1_0_2;have f_w1_0_2:=(hb1).frozen (p:=⟨w.heap.size,2,none⟩) z0b;simp [go_sem] at f_w1_0_2;have c_w1_0_3:=(hb1).cell (p:=⟨w.heap.size,3,none⟩) z0b;simp [go_sem] at c_w1_0_3;have f_w1_0_3:=(hb1).frozen (p:=⟨w.heap.size,3,none⟩) z0b;simp [go_sem] at f_w1_0_3;have c_w1_0_4:=(hb1).cell (p:=⟨w.heap.size,4,none⟩) z0b;simp [go_sem] at c_w1_0_4;have f_w1_0_4:=(hb1).frozen (p:=⟨w.heap.size,4,none⟩) z0b;simp [go_sem] at f_w1_0_4)|(go_at_call 85;with_reducible refine (C.out.c2 _).mono ?_;rintro e w2 ⟨rfl,hb2⟩)|go_skip|go_guarded|go_step|go_upon|(dsimp only []))
 go_ret
 exact ⟨by simp,zb2⟩
theorem RExact_zero (neg:Bool) (V t:Nat) (w:World) (C:Hid (RxC neg V 0 t true)) :
  Calls Tryz.prog 96 #[.agg #[.bool (neg ),.int .u64 (lm ( V) 0:Nat),.int .u64 (lm ( V) 1:Nat),.int .u64 (lm ( V) 2:Nat),.int .u64 (lm ( V) 3:Nat)]] w fun e w'=>e=.returned (.bool true)∧Below w.heap.size w w':=by
 go_enter Tryz.func96,Tryz.ntmps96
 repeat any_goals (first|(go_at_call 109;with_reducible refine (C.out.c1 _).mono ?_;rintro e w1 ⟨v1,rfl,hv1,hb1⟩;have hl_w1_0:w.heap.size < w1.heap.size:=z0u;have c_w1_0_0:=(hb1).cell (p:=⟨w.heap.size,0,none⟩) z0b;simp [go_sem] at c_w1_0_0;have f_w1_0_0:=(hb1).frozen (p:=⟨w.heap.size,0,none⟩) z0b;simp [go_sem] at f_w1_0_0;have c_w1_0_1:=(hb1).cell (p:=⟨w.heap.size,1,none⟩) z0b;simp [go_sem] at c_w1_0_1;have f_w1_0_1:=(hb1).frozen (p:=⟨w.heap.size,1,none⟩) z0b;simp [go_sem] at f_w1_0_1;have c_w1_0_2:=(hb1).cell (p:=⟨w.heap.size,2,none⟩) z0b;simp [go_sem] at c_w1_0_2;have f_w1_0_2:=(hb1).frozen (p:=⟨w.heap.size,2,none⟩) z0b;simp [go_sem] at f_w1_0_2;have c_w1_0_3:=(hb1).cell (p:=⟨w.heap.size,3,none⟩) z0b;simp [go_sem] at c_w1_0_3;have f_w1_0_3:=(hb1).frozen (p:=⟨w.heap.size,3,none⟩) z0b;simp [go_sem] at f_w1_0_3;have c_w1_0_4:=(hb1).cell (p:=⟨w.heap.size,4,none⟩) z0b;simp [go_sem] at c_w1_0_4;have f_w1_0_4:=(hb1).frozen (p:=⟨w.heap.size,4,none⟩) z0b;simp [go_sem] at f_w1_0_4)|(go_at_call 85;with_reducible refine (C.out.c2 _).mono ?_;rintro e w2 ⟨rfl,hb2⟩)|(go_at_call 110;with_reducible refine (C.out.c3 _ _ (Below.isD hb2 hv1)).mono ?_;rintro e w' ⟨rfl,rfl⟩)|go_skip|go_guarded|go_step|go_upon|(dsimp only []))
 go_ret
 exact ⟨by simp,zb2⟩
theorem RExact_num (neg:Bool) (V l t:Nat) (w:World) (hl0:((l:Int) == 0)=false) (hl:l≤256) (ht:t≤256) (x:Bool) (hx:decide ((l:Int) - (t:Int)≤53)=x) (C:Hid (RxC neg V l t true)) :
  Calls Tryz.prog 96 #[.agg #[.bool (neg ),.int .u64 (lm ( V) 0:Nat),.int .u64 (lm ( V) 1:Nat),.int .u64 (lm ( V) 2:Nat),.int .u64 (lm ( V) 3:Nat)]] w fun e w'=>e=.returned (.bool x)∧Below w.heap.size w w':=by
 go_enter Tryz.func96,Tryz.ntmps96
 repeat any_goals (first|(go_at_call 109;with_reducible refine (C.out.c1 _).mono ?_;rintro e w1 ⟨v1,rfl,hv1,hb1⟩;have hl_w1_0:w.heap.size < w1.heap.size:=z0u;have c_w1_0_0:=(hb1).cell (p:=⟨w.heap.size,0,none⟩) z0b;simp [go_sem] at c_w1_0_0;have f_w1_0_0:=(hb1).frozen (p:=⟨w.heap.size,0,none⟩) z0b;simp [go_sem] at f_w1_0_0;have c_w1_0_1:=(hb1).cell (p:=⟨w.heap.size,1,none⟩) z0b;simp [go_sem] at c_w1_0_1;have f_w1_0_1:=(hb1).frozen (p:=⟨w.heap.size,1,none⟩) z0b;simp [go_sem] at f_w1_0_1;have c_w1_0_2:=(hb1).cell (p:=⟨w.heap.size,2,none⟩) z0b;simp [go_sem] at c_w1_0_2;have f_w1_0_2:=(hb1).frozen (p:=⟨w.heap.size,2,none⟩) z0b;simp [go_sem] at f_w1_0_2;have c_w1_0_3:=(hb1).cell (p:=⟨w.heap.size,3,none⟩) z0b;simp [go_sem] at c_w1_0_3;have f_w1_0_3:=(hb1).frozen (p:=⟨w.heap.size,3,none⟩) z0b;simp [go_sem] at f_w1_0_3;have c_w1_0_4:=(hb1).cell (p:=⟨w.heap.size,4,none⟩) z0b;simp [go_sem] at c_w1_0_4;have f_w1_0_4:=(hb1).frozen (p:=⟨w.heap.size,4,none⟩) z0b;simp [go_sem] at f_w1_0_4)|(go_at_call 85;with_reducible refine (C.out.c2 _).mono ?_;rintro e w2 ⟨rfl,hb2⟩)|(go_at_call 110;with_reducible refine (C.out.c3 _ _ (Below.isD hb2 hv1)).mono ?_;rintro e w' ⟨rfl,rfl⟩)|(go_at_call 111;with_reducible refine (C.out.c4 _ _ (Below.isD hb2 hv1)).mono ?_;rintro e w' ⟨rfl,rfl⟩)|go_skip|go_guarded|go_step|go_upon|(dsimp only []))
 all_goals (go_ret;exact ⟨by first|(simp;done)|(simp [← hx];omega),zb2⟩)
theorem RExact_any (neg:Bool) (V:Nat) (hV:V < 2 ^ 256) (w:World) :
  Calls Tryz.prog 96 #[.agg #[.bool (neg ),.int .u64 (lm ( V) 0:Nat),.int .u64 (lm ( V) 1:Nat),.int .u64 (lm ( V) 2:Nat),.int .u64 (lm ( V) 3:Nat)]] w fun e w'=>e=.returned (.bool (exactI neg V))∧Below w.heap.size w w':=by
 have C:=RxC.mk (fun w=>DOf_any V hV w) (RMayI_any neg V hV) (fun v w h=>DLen_any v _ V w h) (fun v w h=>DTrail_any v _ V w h)
 cases hm:mayI neg V with
 | false=>
  have e:exactI neg V=false:=by unfold exactI;rw [hm];rfl
  rw [hm] at C
  rw [e]
  exact RExact_no neg V _ _ w (Lib.hid C)
 | true=>
  rw [hm] at C
  by_cases c:V=0
  ·have e:exactI neg V=true:=by unfold exactI;rw [hm,c];rfl
   rw [e]
   rw [show bl V=0 from by rw [c,bl_zero]] at C
   exact RExact_zero neg V _ w (Lib.hid C)
  ·have hlt:=tz_lt_bl (Nat.pos_of_ne_zero c)
   have hbl:=(bl_le_iff V 256).2 hV
   have e:exactI neg V=decide ((bl V:Int) - (tz V:Int)≤53):=by
    unfold exactI
    rw [hm,show (V == 0)=false from by simpa using c,Bool.true_and,Bool.false_or]
    rw [decide_eq_decide]
    omega
   rw [e]
   rw [if_neg c] at C
   exact RExact_num neg V (bl V) (tz V) w z0a1 hbl z0c _ rfl (Lib.hid C)
theorem ROfInt_neg (v:Int) (u:Int) (hv:v < 0) (e:IntKind.u64.wrap (IntKind.u64.wrap (wrap64 (-wrap64 (v+1)))+1)=u) (w:World) :
  Calls Tryz.prog 107 #[.int .i64 v] w fun e w'=>e=.returned (.agg #[.bool true,.int .u64 u,.int .u64 0,.int .u64 0,.int .u64 0])∧Below w.heap.size w w':=by
 go_enter Tryz.func107,Tryz.ntmps107
 repeat any_goals (first|go_skip|go_guarded|go_step|go_upon|(simp only [];done))
 refine bodyPost_ret (v:=.agg #[.bool true,.int .u64 u,.int .u64 0,.int .u64 0,.int .u64 0]) ?_ rfl ⟨rfl,zb2⟩
 simp [results,Tryz.results107,go_sem, *]
theorem ROfInt_pos (v:Int) (u:Int) (hv:0≤v) (e:IntKind.u64.wrap v=u) (w:World) :
  Calls Tryz.prog 107 #[.int .i64 v] w fun e w'=>e=.returned (.agg #[.bool false,.int .u64 u,.int .u64 0,.int .u64 0,.int .u64 0])∧Below w.heap.size w w':=by
 go_enter Tryz.func107,Tryz.ntmps107
 repeat any_goals (first|go_skip|go_guarded|go_step|go_upon|(simp only [];done))
 refine bodyPost_ret (v:=.agg #[.bool false,.int .u64 u,.int .u64 0,.int .u64 0,.int .u64 0]) ?_ rfl ⟨rfl,zb2⟩
 simp [results,Tryz.results107,go_sem, *]
theorem ROfU_walk (u:Int) (w:World) :
  Calls Tryz.prog 108 #[.int .u64 u] w fun e w'=>e=.returned (.agg #[.bool false,.int .u64 u,.int .u64 0,.int .u64 0,.int .u64 0])∧Below w.heap.size w w':=by
 go_enter Tryz.func108,Tryz.ntmps108
 repeat any_goals (first|go_skip|go_guarded|go_step|go_upon|(simp only [];done))
 refine bodyPost_ret (v:=.agg #[.bool false,.int .u64 u,.int .u64 0,.int .u64 0,.int .u64 0]) ?_ rfl ⟨rfl,zb2⟩
 simp [results,Tryz.results108,go_sem, *]
theorem ROfI_any (v:Int) (h0 : -9223372036854775808≤v) (h1:v < 9223372036854775808) (w:World) :
  Calls Tryz.prog 107 #[.int .i64 v] w fun e w'=>e=.returned (.agg #[.bool (sg v ),.int .u64 (lm ( ab v) 0:Nat),.int .u64 (lm ( ab v) 1:Nat),.int .u64 (lm ( ab v) 2:Nat),.int .u64 (lm ( ab v) 3:Nat)])∧Below w.heap.size w w':=by
 have hu:ab v < 18446744073709551616:=by unfold ab;omega
 obtain ⟨q0,q1,q2,q3⟩:=lm_small hu
 rw [q0,q1,q2,q3]
 by_cases c:v < 0
 ·rw [show sg v=true from decide_eq_true c]
  refine ROfInt_neg v _ c ?_ w
  rw [IntKind.wrap_u64,IntKind.wrap_u64]
  simp only [wrap64]
  unfold ab
  omega
 ·rw [show sg v=false from decide_eq_false c]
  refine ROfInt_pos v _ z0c ?_ w
  rw [IntKind.wrap_u64]
  unfold ab
  omega
theorem ROfU_any (u:Nat) (hu:u < 18446744073709551616) (w:World) :
  Calls Tryz.prog 108 #[.int .u64 (u:Int)] w fun e w'=>e=.returned (.agg #[.bool (false ),.int .u64 (lm ( u) 0:Nat),.int .u64 (lm ( u) 1:Nat),.int .u64 (lm ( u) 2:Nat),.int .u64 (lm ( u) 3:Nat)])∧Below w.heap.size w w':=by
 obtain ⟨q0,q1,q2,q3⟩:=lm_small hu
 rw [q0,q1,q2,q3]
 exact ROfU_walk _ w
structure RcC (n:Bool) (V:Nat) (m:Bool) (U:Nat) (x:Int):Prop where
 c1:∀ w:World,Calls Tryz.prog 109 #[.agg #[.int .u64 (lm (V) 0:Nat),.int .u64 (lm (V) 1:Nat),.int .u64 (lm (V) 2:Nat),.int .u64 (lm (V) 3:Nat)]] w fun e w'=>∃ v,e=.returned v∧IsD w' v V∧Below w.heap.size w w'
 c2:∀ w:World,Calls Tryz.prog 109 #[.agg #[.int .u64 (lm (U) 0:Nat),.int .u64 (lm (U) 1:Nat),.int .u64 (lm (U) 2:Nat),.int .u64 (lm (U) 3:Nat)]] w fun e w'=>∃ v,e=.returned v∧IsD w' v U∧Below w.heap.size w w'
 c3:∀ (v1 v2:Value) (w:World),IsD w v1 V→IsD w v2 U→Calls Tryz.prog 124 #[v1,v2] w fun e w'=>e=.returned (.int .i64 x)∧Below w.heap.size w w'
theorem ibox_new1 {w:World} {n:Bool} {V:Nat} {t:TypeId} {o:Obj}:IBox ((w.alloc o).alloc (.cells #[.bool n,.int .u64 (lm V 0:Nat),.int .u64 (lm V 1:Nat),.int .u64 (lm V 2:Nat),.int .u64 (lm V 3:Nat)] t)) (w.heap.size+1) n V:=by
 have h:=@ibox_new (w.alloc o) n V t
 simpa using h
theorem RCmp_walk (n:Bool) (V:Nat) (m:Bool) (U:Nat) (x z:Int) (w:World) (C:Hid (RcC n V m U x)) (h:n=true∧m=false∧z = -1∨n=false∧m=true∧z=1) :
  Calls Tryz.prog 106 #[.agg #[.bool (n ),.int .u64 (lm ( V) 0:Nat),.int .u64 (lm ( V) 1:Nat),.int .u64 (lm ( V) 2:Nat),.int .u64 (lm ( V) 3:Nat)],.agg #[.bool (m ),.int .u64 (lm ( U) 0:Nat),.int .u64 (lm ( U) 1:Nat),.int .u64 (lm ( U) 2:Nat),.int .u64 (lm ( U) 3:Nat)]] w fun e w'=>e=.returned (.int .i64 z)∧Below w.heap.size w w':=by
 rcases h with ⟨rfl,rfl,rfl⟩|⟨rfl,rfl,rfl⟩
 all_goals (
  go_enter Tryz.func106,Tryz.ntmps106
  (repeat any_goals (first|go_skip|go_guarded|go_step|go_upon|(simp only [];done)))
  go_ret
  exact ⟨by simp,zb2⟩)
theorem RCmp_same (n:Bool) (V U:Nat) (x z:Int) (w:World) (C:Hid (RcC n V n U x)) (h:n=true∧wrap64 (-x)=z∨n=false∧x=z) :
  Calls Tryz.prog 106 #[.agg #[.bool (n ),.int .u64 (lm ( V) 0:Nat),.int .u64 (lm ( V) 1:Nat),.int .u64 (lm ( V) 2:Nat),.int .u64 (lm ( V) 3:Nat)],.agg #[.bool (n ),.int .u64 (lm ( U) 0:Nat),.int .u64 (lm ( U) 1:Nat),.int .u64 (lm ( U) 2:Nat),.int .u64 (lm ( U) 3:Nat)]] w fun e w'=>e=.returned (.int .i64 z)∧Below w.heap.size w w':=by
 go_enter Tryz.func106,Tryz.ntmps106
 go_upto_region 5 with fail
 have X0:=Lib.hid ((@ibox_new w n V 27).alloc (.cells #[.bool n,.int .u64 (lm U 0:Nat),.int .u64 (lm U 1:Nat),.int .u64 (lm U 2:Nat),.int .u64 (lm U 3:Nat)] 27))
 have Y0:=Lib.hid (@ibox_new1 w n U 27 (.cells #[.bool n,.int .u64 (lm V 0:Nat),.int .u64 (lm V 1:Nat),.int .u64 (lm V 2:Nat),.int .u64 (lm V 3:Nat)] 27))
 have hW:Below w.heap.size w ((w.alloc (.cells #[.bool n,.int .u64 (lm V 0:Nat),.int .u64 (lm V 1:Nat),.int .u64 (lm V 2:Nat),.int .u64 (lm V 3:Nat)] 27)).alloc (.cells #[.bool n,.int .u64 (lm U 0:Nat),.int .u64 (lm U 1:Nat),.int .u64 (lm U 2:Nat),.int .u64 (lm U 3:Nat)] 27)):=zb2
 generalize (w.alloc (.cells #[.bool n,.int .u64 (lm V 0:Nat),.int .u64 (lm V 1:Nat),.int .u64 (lm V 2:Nat),.int .u64 (lm V 3:Nat)] 27)).alloc (.cells #[.bool n,.int .u64 (lm U 0:Nat),.int .u64 (lm U 1:Nat),.int .u64 (lm U 2:Nat),.int .u64 (lm U 3:Nat)] 27)=w0 at *
 have hq:Below w0.heap.size w0 w0.drew:=(Below.refl _ _).drew
 go_region_held3 (fun w'=>w'.cell? ⟨w.heap.size,0,none⟩=some (.bool n)∧w'.cell? ⟨w.heap.size,1,none⟩=some (.int .u64 (lm V 0:Nat))∧w'.cell? ⟨w.heap.size,2,none⟩=some (.int .u64 (lm V 1:Nat))∧w'.cell? ⟨w.heap.size,3,none⟩=some (.int .u64 (lm V 2:Nat))∧w'.cell? ⟨w.heap.size,4,none⟩=some (.int .u64 (lm V 3:Nat))∧w'.cell? ⟨(w.heap.size+1),0,none⟩=some (.bool n)∧w'.cell? ⟨(w.heap.size+1),1,none⟩=some (.int .u64 (lm U 0:Nat))∧w'.cell? ⟨(w.heap.size+1),2,none⟩=some (.int .u64 (lm U 1:Nat))∧w'.cell? ⟨(w.heap.size+1),3,none⟩=some (.int .u64 (lm U 2:Nat))∧w'.cell? ⟨(w.heap.size+1),4,none⟩=some (.int .u64 (lm U 3:Nat))) (first|with_reducible assumption|(have hk_:=hq;with_reducible exact ⟨(X0.out.below hk_).c0,(X0.out.below hk_).c1,(X0.out.below hk_).c2,(X0.out.below hk_).c3,(X0.out.below hk_).c4,(Y0.out.below hk_).c0,(Y0.out.below hk_).c1,(Y0.out.below hk_).c2,(Y0.out.below hk_).c3,(Y0.out.below hk_).c4⟩)|(have hk_:=Below.refl (w0).heap.size (w0);with_reducible exact ⟨(X0.out.below hk_).c0,(X0.out.below hk_).c1,(X0.out.below hk_).c2,(X0.out.below hk_).c3,(X0.out.below hk_).c4,(Y0.out.below hk_).c0,(Y0.out.below hk_).c1,(Y0.out.below hk_).c2,(Y0.out.below hk_).c3,(Y0.out.below hk_).c4⟩)|(have hk_:=(Below.refl (w0).heap.size (w0)).drew;with_reducible exact ⟨(X0.out.below hk_).c0,(X0.out.below hk_).c1,(X0.out.below hk_).c2,(X0.out.below hk_).c3,(X0.out.below hk_).c4,(Y0.out.below hk_).c0,(Y0.out.below hk_).c1,(Y0.out.below hk_).c2,(Y0.out.below hk_).c3,(Y0.out.below hk_).c4⟩)) (first|(go_at_call 109;with_reducible refine (C.out.c1 _).mono ?_;rintro e w1 ⟨u1,rfl,hu1,hb1⟩;(first|have hq:=below_trans hq hb1|have hq:=below_trans (Below.refl _ _).drew hb1|have hq:=hb1))|(go_at_call 109;with_reducible refine (C.out.c2 _).mono ?_;rintro e w2 ⟨u2,rfl,hu2,hb2⟩;(first|have hq:=below_trans hq hb2|have hq:=below_trans (Below.refl _ _).drew hb2|have hq:=hb2))|(go_at_call 124;with_reducible refine (C.out.c3 _ _ _ (hu1.below hb2) hu2).mono ?_;rintro e w3 ⟨rfl,hb3⟩;(first|have hq:=below_trans hq hb3|have hq:=below_trans (Below.refl _ _).drew hb3|have hq:=hb3)))
 obtain ⟨_,_,_,_,_⟩:=(X0.out.below hq).all
 rcases h with ⟨rfl,h⟩|⟨rfl,h⟩
 all_goals (
  (repeat any_goals (first|go_skip|go_guarded|go_step|go_upon|(simp only [];done)))
  go_ret
  exact ⟨by simp [← h],zb2⟩)
theorem RCmp_any (n:Bool) (V:Nat) (hV:V < 2 ^ 256) (m:Bool) (U:Nat) (hU:U < 2 ^ 256) (h1:mayI n V=true) (h2:mayI m U=true) (w:World) :
  Calls Tryz.prog 106 #[.agg #[.bool (n ),.int .u64 (lm ( V) 0:Nat),.int .u64 (lm ( V) 1:Nat),.int .u64 (lm ( V) 2:Nat),.int .u64 (lm ( V) 3:Nat)],.agg #[.bool (m ),.int .u64 (lm ( U) 0:Nat),.int .u64 (lm ( U) 1:Nat),.int .u64 (lm ( U) 2:Nat),.int .u64 (lm ( U) 3:Nat)]] w fun e w'=>e=.returned (.int .i64 (cmpI n V m U))∧Below w.heap.size w w':=by
 have C:=RcC.mk (n:=n) (m:=m) (fun w=>DOf_any V hV w) (fun w=>DOf_any U hU w) (fun v1 v2 w a b=>CmpI_any v1 v2 V U w a b)
 have e:cmpI n V m U=cmpZ (zI n V) (zI m U):=by unfold cmpI;rw [h1,h2];rfl
 rw [e]
 cases n with
 | true=>
  have p1:=may_true.1 h1
  cases m with
  | true=>
   refine RCmp_same true V U _ _ w (Lib.hid C) (.inl ⟨rfl,?_⟩)
   rw [zI_true,zI_true,cmpZ_neg,cmpV_neg]
   unfold cmpV
   split
   ·simp [wrap64]
   ·split <;> simp [wrap64]
  | false=>
   refine RCmp_walk true V false U _ _ w (Lib.hid C) (.inl ⟨rfl,rfl,?_⟩)
   unfold cmpZ
   rw [if_pos (by rw [zI_true,zI_false];omega)]
 | false=>
  cases m with
  | true=>
   have p2:=may_true.1 h2
   refine RCmp_walk false V true U _ _ w (Lib.hid C) (.inr ⟨rfl,rfl,?_⟩)
   unfold cmpZ
   rw [if_neg (by rw [zI_true,zI_false];omega),if_neg (by rw [zI_true,zI_false];omega)]
  | false=>exact RCmp_same false V U _ _ w (Lib.hid C) (.inr ⟨rfl,by rw [zI_false,zI_false,cmpZ_nn]⟩)
end Go.Proofs.YtfondldmmcmloaaGreatDoor
