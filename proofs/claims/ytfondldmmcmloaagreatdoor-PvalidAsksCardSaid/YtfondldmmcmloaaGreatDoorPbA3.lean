/- PG, PH. -/
import Derived.Test.YtfondldmmcmloaaGreatDoorPb24
import Derived.Test.YtfondldmmcmloaaGreatDoorPbA2
set_option maxRecDepth 1000000
set_option maxHeartbeats 8000000
namespace Go.Proofs.YtfondldmmcmloaaGreatDoor
open Go Go.RowKit
theorem za3zs1 {p q:Prop} (h:q) (e:q→p:=by intro hq;(try simp only [Act.put,List.setIfInBounds_toArray,List.set_cons_zero,List.set_cons_succ]);exact hq):p:=e h
theorem za3zk1 {p:Prop} (h:p:=by
 clear hR hm hV
 go_enter Tryz.func84,Tryz.ntmps84
 repeat any_goals (first|(go_at_call 95;with_reducible refine (C1.out _).mono ?_;rintro e w1 ⟨rfl,hb1⟩)|go_skip|go_guarded|go_step|go_upon|(dsimp only []))
 exact bodyPost_ret (v:=.bool R) z0s rfl ⟨rfl,zb2⟩):p:=h
theorem za3zk2 {p:Prop} (h:p:=by
 (go_big_quiet_want;go_big_quiet_op;go_big_quiet_on)
 (go_big_quiet_want;go_big_quiet_op;go_big_quiet_on)
 (refine wpQuiet_nil ?_;intro w2 hw2;rw [HC.out] at hw2)
 repeat any_goals (first|go_skip|go_guarded|go_step|go_upon|(simp only [];done))
 exact bodyPost_ret (v:=.bool false) (by simp [results,Tryz.results95,go_sem]) rfl ⟨rfl,below_trans hW0 hw2⟩):p:=h
theorem za3zk3 {p:Prop} (h:p:=by
 clear c hR
 repeat any_goals (first|go_skip|go_guarded|go_step|go_upon|(simp only [];done))
 exact bodyPost_ret (v:=.bool true) z0s rfl ⟨rfl,zb2⟩):p:=h
theorem za3zk4 {p:Prop} (h:p:=by
 repeat any_goals (first|go_skip|go_guarded|go_step|go_upon|(simp only [];done))
 exact bodyPost_ret (v:=.bool false) z0s rfl ⟨rfl,zb2⟩):p:=h
end Go.Proofs.YtfondldmmcmloaaGreatDoor
namespace Go.Proofs.YtfondldmmcmloaaGreatDoor
open Go.RowKit
theorem cmpZ_nonneg {p q:Int}:0≤cmpZ p q↔q≤p:=by
 unfold cmpZ
 split
 ·omega
 ·split <;> omega
/-- **within** -/
theorem within_any (kind:Int) (neg:Bool) (V bits:Nat) (text:ByteArray) (aL:Option Addr) (nL cL:Nat) (aK:Option Addr) (nK cK:Nat) (hV:V < 2 ^ 256) (hm:kind=3→mayI neg V=true) (lo:Int) (hi:Nat) (h0 : -9223372036854775808≤lo) (h1:lo < 9223372036854775808) (h2:hi < 18446744073709551616) (w:World) :
  Calls Tryz.prog 95 #[.agg #[.int .i64 kind,.bool neg,.int .u64 (lm V 0:Nat),.int .u64 (lm V 1:Nat),.int .u64 (lm V 2:Nat),.int .u64 (lm V 3:Nat),.int .u64 (bits:Nat),.string text,.slice aL nL cL,.slice aK nK cK],.int .i64 lo,.int .u64 (hi:Nat)] w fun e w'=>e=.returned (.bool (rngT kind neg V lo hi))∧Below w.heap.size w w':=by
 obtain ⟨ln,hln⟩:∃ n,n=sg lo:=⟨_,rfl⟩
 obtain ⟨lv,hlv⟩:∃ n,n=ab lo:=⟨_,rfl⟩
 have hlv2:lv < 2 ^ 256:=by rw [hlv];unfold ab;omega
 have CL:=Lib.hid fun wx=>ROfI_any lo h0 h1 wx
 have CH:=Lib.hid fun wx=>ROfU_any hi h2 wx
 rw [← hln,← hlv] at CL
 obtain ⟨R,hR⟩:∃ R,R=rngT kind neg V lo hi:=⟨_,rfl⟩
 rw [← hR]
 have HR:=Lib.hid hR
 clear hR
 by_cases d:kind=3
 ·have hmm:=hm d
  obtain ⟨z1,hz1⟩:∃ z,cmpI neg V ln lv=z:=⟨_,rfl⟩
  obtain ⟨z2,hz2⟩:∃ z,cmpI neg V false hi=z:=⟨_,rfl⟩
  have C1:=Lib.hid fun wx=>RCmp_any neg V hV ln lv hlv2 hmm (by rw [hln,hlv];exact mayI_sgz _) wx
  have C2:=Lib.hid fun wx=>RCmp_any neg V hV false hi z0c hmm rfl wx
  rw [hz1] at C1
  rw [hz2] at C2
  have J1:=Lib.hid (show 0≤z1↔lo≤zI neg V by
   rw [← hz1,hln,hlv]
   unfold cmpI
   rw [mayI_sgz,hmm,zI_sgz]
   exact cmpZ_nonneg)
  have J2:=Lib.hid (show z2≤0↔zI neg V≤(hi:Int) by
   rw [← hz2]
   unfold cmpI
   rw [hmm,show mayI false hi=true from rfl,zI_false]
   exact cmpZ_nonpos)
  have d1:(kind == 3)=true:=beq_iff_eq.2 d
  have D:=Lib.hid d
  clear hln hlv hz1 hz2 hm hmm d hlv2 h0 h1 h2
  go_enter Tryz.func95,Tryz.ntmps95
  go_upto_region 1 with fail
  have V0:=Lib.hid (vbx_new w 31 kind neg V bits text aL nL cL aK nK cK)
  have hW0:=below_alloc (Below.refl w.heap.size w) (.cells #[.int .i64 kind,.bool neg,.int .u64 (lm V 0:Nat),.int .u64 (lm V 1:Nat),.int .u64 (lm V 2:Nat),.int .u64 (lm V 3:Nat),.int .u64 (bits:Nat),.string text,.slice aL nL cL,.slice aK nK cK] 31)
  generalize w.alloc (.cells #[.int .i64 kind,.bool neg,.int .u64 (lm V 0:Nat),.int .u64 (lm V 1:Nat),.int .u64 (lm V 2:Nat),.int .u64 (lm V 3:Nat),.int .u64 (bits:Nat),.string text,.slice aL nL cL,.slice aK nK cK] 31)=w0 at *
  obtain ⟨B0,hB0⟩:∃ B,B=w.heap.size:=⟨_,rfl⟩
  rw [← hB0] at V0 ⊢
  clear hB0
  by_cases c1:0≤z1
  ·by_cases c2:z2≤0
   ·have e:R=true:=by rw [HR.out];unfold rngT;rw [decide_eq_true D.out,decide_eq_true (J1.out.1 c1),decide_eq_true (J2.out.1 c2)];rfl
    subst e
    (obtain ⟨C_,hC⟩:∃ C:World→Prop,C=fun w'=>Below (w0).heap.size (w0) w':=⟨_,rfl⟩;have HC:=Lib.hid hC;have hne:∀ p:Prop,(∀ w1:World,C_ w1→p)=p:=fun p=>propext ⟨fun h=>h (w0) z0i,fun h _ _=>h⟩;clear hC;refine wp_region_quiet_great (C:=C_) z0a z0a z0g ?_)
    (go_big_quiet_want;go_big_quiet_op;go_big_quiet_on)
    (go_big_quiet_want;refine ⟨.int .i64 kind,fun w1 hw1=>?_,?_⟩;(rw [HC.out] at hw1;obtain ⟨_,_,_,_,_⟩:=(V0.out.below hw1).all;simp [Oper.quietAt,go_sem, *]);refine za3zs1 ?_;go_big_quiet_on)
    (go_big_quiet_want;go_big_quiet_op;go_big_quiet_on)
    (go_big_quiet_want;go_big_quiet_op;go_big_quiet_on)
    (go_big_quiet_want;go_big_quiet_op;go_big_quiet_on)
    (go_big_quiet_want;refine ⟨.agg #[.bool neg,.int .u64 (lm V 0:Nat),.int .u64 (lm V 1:Nat),.int .u64 (lm V 2:Nat),.int .u64 (lm V 3:Nat)],fun w1 hw1=>?_,?_⟩;(rw [HC.out] at hw1;obtain ⟨_,_,_,_,_⟩:=(V0.out.below hw1).all;simp [Oper.quietAt,go_sem, *]);refine za3zs1 ?_;go_big_quiet_on)
    (go_big_quiet_want;go_big_quiet_op;go_big_quiet_on)
    (go_big_quiet_want;go_big_quiet_op;refine ⟨.agg #[.bool ln,.int .u64 (lm lv 0:Nat),.int .u64 (lm lv 1:Nat),.int .u64 (lm lv 2:Nat),.int .u64 (lm lv 3:Nat)],fun w1 hw1=>?_,?_⟩;(rw [HC.out] at hw1 ⊢;with_reducible refine (CL.out _).mono ?_;rintro e w4 ⟨rfl,hb4⟩;exact ⟨rfl,below_trans hw1 hb4⟩);go_big_quiet_on)
    (go_big_quiet_want;go_big_quiet_op;refine ⟨.int .i64 z1,fun w1 hw1=>?_,?_⟩;(rw [HC.out] at hw1 ⊢;with_reducible refine (C1.out _).mono ?_;rintro e w4 ⟨rfl,hb4⟩;exact ⟨rfl,below_trans hw1 hb4⟩);go_big_quiet_on)
    (go_big_quiet_want;go_big_quiet_op;go_big_quiet_on)
    (go_big_quiet_want;go_big_quiet_op;go_big_quiet_on)
    (go_big_quiet_want;go_big_quiet_op;go_big_quiet_on)
    (go_big_quiet_want;go_big_quiet_op;go_big_quiet_on)
    (go_big_quiet_want;refine ⟨.agg #[.bool neg,.int .u64 (lm V 0:Nat),.int .u64 (lm V 1:Nat),.int .u64 (lm V 2:Nat),.int .u64 (lm V 3:Nat)],fun w1 hw1=>?_,?_⟩;(rw [HC.out] at hw1;obtain ⟨_,_,_,_,_⟩:=(V0.out.below hw1).all;simp [Oper.quietAt,go_sem, *]);refine za3zs1 ?_;go_big_quiet_on)
    (go_big_quiet_want;go_big_quiet_op;go_big_quiet_on)
    (go_big_quiet_want;go_big_quiet_op;refine ⟨.agg #[.bool false,.int .u64 (lm hi 0:Nat),.int .u64 (lm hi 1:Nat),.int .u64 (lm hi 2:Nat),.int .u64 (lm hi 3:Nat)],fun w1 hw1=>?_,?_⟩;(rw [HC.out] at hw1 ⊢;with_reducible refine (CH.out _).mono ?_;rintro e w4 ⟨rfl,hb4⟩;exact ⟨rfl,below_trans hw1 hb4⟩);go_big_quiet_on)
    (go_big_quiet_want;go_big_quiet_op;refine ⟨.int .i64 z2,fun w1 hw1=>?_,?_⟩;(rw [HC.out] at hw1 ⊢;with_reducible refine (C2.out _).mono ?_;rintro e w4 ⟨rfl,hb4⟩;exact ⟨rfl,below_trans hw1 hb4⟩);go_big_quiet_on)
    (go_big_quiet_want;go_big_quiet_op;go_big_quiet_on)
    (go_big_quiet_want;go_big_quiet_op;go_big_quiet_on)
    (go_big_quiet_want;go_big_quiet_op;go_big_quiet_on)
    (refine wpQuiet_nil ?_;intro w2 hw2;rw [HC.out] at hw2)
    repeat any_goals (first|go_skip|go_guarded|go_step|go_upon|(simp only [];done))
    exact bodyPost_ret (v:=.bool true) (by simp [results,Tryz.results95,go_sem]) rfl ⟨rfl,below_trans hW0 hw2⟩
   ·have e:R=false:=by rw [HR.out];unfold rngT;rw [decide_eq_false (fun h=>c2 (J2.out.2 h)),Bool.and_false,Bool.and_false]
    subst e
    (obtain ⟨C_,hC⟩:∃ C:World→Prop,C=fun w'=>Below (w0).heap.size (w0) w':=⟨_,rfl⟩;have HC:=Lib.hid hC;have hne:∀ p:Prop,(∀ w1:World,C_ w1→p)=p:=fun p=>propext ⟨fun h=>h (w0) z0i,fun h _ _=>h⟩;clear hC;refine wp_region_quiet_great (C:=C_) z0a z0a z0g ?_)
    (go_big_quiet_want;go_big_quiet_op;go_big_quiet_on)
    (go_big_quiet_want;refine ⟨.int .i64 kind,fun w1 hw1=>?_,?_⟩;(rw [HC.out] at hw1;obtain ⟨_,_,_,_,_⟩:=(V0.out.below hw1).all;simp [Oper.quietAt,go_sem, *]);refine za3zs1 ?_;go_big_quiet_on)
    (go_big_quiet_want;go_big_quiet_op;go_big_quiet_on)
    (go_big_quiet_want;go_big_quiet_op;go_big_quiet_on)
    (go_big_quiet_want;go_big_quiet_op;go_big_quiet_on)
    (go_big_quiet_want;refine ⟨.agg #[.bool neg,.int .u64 (lm V 0:Nat),.int .u64 (lm V 1:Nat),.int .u64 (lm V 2:Nat),.int .u64 (lm V 3:Nat)],fun w1 hw1=>?_,?_⟩;(rw [HC.out] at hw1;obtain ⟨_,_,_,_,_⟩:=(V0.out.below hw1).all;simp [Oper.quietAt,go_sem, *]);refine za3zs1 ?_;go_big_quiet_on)
    (go_big_quiet_want;go_big_quiet_op;go_big_quiet_on)
    (go_big_quiet_want;go_big_quiet_op;refine ⟨.agg #[.bool ln,.int .u64 (lm lv 0:Nat),.int .u64 (lm lv 1:Nat),.int .u64 (lm lv 2:Nat),.int .u64 (lm lv 3:Nat)],fun w1 hw1=>?_,?_⟩;(rw [HC.out] at hw1 ⊢;with_reducible refine (CL.out _).mono ?_;rintro e w4 ⟨rfl,hb4⟩;exact ⟨rfl,below_trans hw1 hb4⟩);go_big_quiet_on)
    (go_big_quiet_want;go_big_quiet_op;refine ⟨.int .i64 z1,fun w1 hw1=>?_,?_⟩;(rw [HC.out] at hw1 ⊢;with_reducible refine (C1.out _).mono ?_;rintro e w4 ⟨rfl,hb4⟩;exact ⟨rfl,below_trans hw1 hb4⟩);go_big_quiet_on)
    (go_big_quiet_want;go_big_quiet_op;go_big_quiet_on)
    (go_big_quiet_want;go_big_quiet_op;go_big_quiet_on)
    (go_big_quiet_want;go_big_quiet_op;go_big_quiet_on)
    (go_big_quiet_want;go_big_quiet_op;go_big_quiet_on)
    (go_big_quiet_want;refine ⟨.agg #[.bool neg,.int .u64 (lm V 0:Nat),.int .u64 (lm V 1:Nat),.int .u64 (lm V 2:Nat),.int .u64 (lm V 3:Nat)],fun w1 hw1=>?_,?_⟩;(rw [HC.out] at hw1;obtain ⟨_,_,_,_,_⟩:=(V0.out.below hw1).all;simp [Oper.quietAt,go_sem, *]);refine za3zs1 ?_;go_big_quiet_on)
    (go_big_quiet_want;go_big_quiet_op;go_big_quiet_on)
    (go_big_quiet_want;go_big_quiet_op;refine ⟨.agg #[.bool false,.int .u64 (lm hi 0:Nat),.int .u64 (lm hi 1:Nat),.int .u64 (lm hi 2:Nat),.int .u64 (lm hi 3:Nat)],fun w1 hw1=>?_,?_⟩;(rw [HC.out] at hw1 ⊢;with_reducible refine (CH.out _).mono ?_;rintro e w4 ⟨rfl,hb4⟩;exact ⟨rfl,below_trans hw1 hb4⟩);go_big_quiet_on)
    (go_big_quiet_want;go_big_quiet_op;refine ⟨.int .i64 z2,fun w1 hw1=>?_,?_⟩;(rw [HC.out] at hw1 ⊢;with_reducible refine (C2.out _).mono ?_;rintro e w4 ⟨rfl,hb4⟩;exact ⟨rfl,below_trans hw1 hb4⟩);go_big_quiet_on)
    (go_big_quiet_want;go_big_quiet_op;go_big_quiet_on)
    exact za3zk2
  ·have e:R=false:=by rw [HR.out];unfold rngT;rw [decide_eq_false (fun h=>c1 (J1.out.2 h)),Bool.false_and,Bool.and_false]
   subst e
   (obtain ⟨C_,hC⟩:∃ C:World→Prop,C=fun w'=>Below (w0).heap.size (w0) w':=⟨_,rfl⟩;have HC:=Lib.hid hC;have hne:∀ p:Prop,(∀ w1:World,C_ w1→p)=p:=fun p=>propext ⟨fun h=>h (w0) z0i,fun h _ _=>h⟩;clear hC;refine wp_region_quiet_great (C:=C_) z0a z0a z0g ?_)
   (go_big_quiet_want;go_big_quiet_op;go_big_quiet_on)
   (go_big_quiet_want;refine ⟨.int .i64 kind,fun w1 hw1=>?_,?_⟩;(rw [HC.out] at hw1;obtain ⟨_,_,_,_,_⟩:=(V0.out.below hw1).all;simp [Oper.quietAt,go_sem, *]);refine za3zs1 ?_;go_big_quiet_on)
   (go_big_quiet_want;go_big_quiet_op;go_big_quiet_on)
   (go_big_quiet_want;go_big_quiet_op;go_big_quiet_on)
   (go_big_quiet_want;go_big_quiet_op;go_big_quiet_on)
   (go_big_quiet_want;refine ⟨.agg #[.bool neg,.int .u64 (lm V 0:Nat),.int .u64 (lm V 1:Nat),.int .u64 (lm V 2:Nat),.int .u64 (lm V 3:Nat)],fun w1 hw1=>?_,?_⟩;(rw [HC.out] at hw1;obtain ⟨_,_,_,_,_⟩:=(V0.out.below hw1).all;simp [Oper.quietAt,go_sem, *]);refine za3zs1 ?_;go_big_quiet_on)
   (go_big_quiet_want;go_big_quiet_op;go_big_quiet_on)
   (go_big_quiet_want;go_big_quiet_op;refine ⟨.agg #[.bool ln,.int .u64 (lm lv 0:Nat),.int .u64 (lm lv 1:Nat),.int .u64 (lm lv 2:Nat),.int .u64 (lm lv 3:Nat)],fun w1 hw1=>?_,?_⟩;(rw [HC.out] at hw1 ⊢;with_reducible refine (CL.out _).mono ?_;rintro e w4 ⟨rfl,hb4⟩;exact ⟨rfl,below_trans hw1 hb4⟩);go_big_quiet_on)
   (go_big_quiet_want;go_big_quiet_op;refine ⟨.int .i64 z1,fun w1 hw1=>?_,?_⟩;(rw [HC.out] at hw1 ⊢;with_reducible refine (C1.out _).mono ?_;rintro e w4 ⟨rfl,hb4⟩;exact ⟨rfl,below_trans hw1 hb4⟩);go_big_quiet_on)
   (go_big_quiet_want;go_big_quiet_op;go_big_quiet_on)
   (go_big_quiet_want;go_big_quiet_op;go_big_quiet_on)
   (go_big_quiet_want;go_big_quiet_op;go_big_quiet_on)
   go_big_quiet_skip
   go_big_quiet_skip
   go_big_quiet_skip
   go_big_quiet_skip
   go_big_quiet_skip
   go_big_quiet_skip
   exact za3zk2
 ·have d1:(kind == 3)=false:=beq_false_of_ne d
  have e:R=false:=by rw [HR.out];unfold rngT;rw [decide_eq_false d];rfl
  subst e
  clear d hm h0 h1 h2 hln hlv hlv2
  go_enter Tryz.func95,Tryz.ntmps95
  go_upto_region 1 with fail
  have V0:=Lib.hid (vbx_new w 31 kind neg V bits text aL nL cL aK nK cK)
  have hW0:=below_alloc (Below.refl w.heap.size w) (.cells #[.int .i64 kind,.bool neg,.int .u64 (lm V 0:Nat),.int .u64 (lm V 1:Nat),.int .u64 (lm V 2:Nat),.int .u64 (lm V 3:Nat),.int .u64 (bits:Nat),.string text,.slice aL nL cL,.slice aK nK cK] 31)
  generalize w.alloc (.cells #[.int .i64 kind,.bool neg,.int .u64 (lm V 0:Nat),.int .u64 (lm V 1:Nat),.int .u64 (lm V 2:Nat),.int .u64 (lm V 3:Nat),.int .u64 (bits:Nat),.string text,.slice aL nL cL,.slice aK nK cK] 31)=w0 at *
  obtain ⟨B0,hB0⟩:∃ B,B=w.heap.size:=⟨_,rfl⟩
  rw [← hB0] at V0 ⊢
  clear hB0
  (obtain ⟨C_,hC⟩:∃ C:World→Prop,C=fun w'=>Below (w0).heap.size (w0) w':=⟨_,rfl⟩;have HC:=Lib.hid hC;have hne:∀ p:Prop,(∀ w1:World,C_ w1→p)=p:=fun p=>propext ⟨fun h=>h (w0) z0i,fun h _ _=>h⟩;clear hC;refine wp_region_quiet_great (C:=C_) z0a z0a z0g ?_)
  (go_big_quiet_want;go_big_quiet_op;go_big_quiet_on)
  (go_big_quiet_want;refine ⟨.int .i64 kind,fun w1 hw1=>?_,?_⟩;(rw [HC.out] at hw1;obtain ⟨_,_,_,_,_⟩:=(V0.out.below hw1).all;simp [Oper.quietAt,go_sem, *]);refine za3zs1 ?_;go_big_quiet_on)
  (go_big_quiet_want;go_big_quiet_op;go_big_quiet_on)
  (go_big_quiet_want;go_big_quiet_op;go_big_quiet_on)
  go_big_quiet_skip
  go_big_quiet_skip
  go_big_quiet_skip
  go_big_quiet_skip
  go_big_quiet_skip
  go_big_quiet_skip
  (go_big_quiet_want;go_big_quiet_op;go_big_quiet_on)
  (go_big_quiet_want;go_big_quiet_op;go_big_quiet_on)
  go_big_quiet_skip
  go_big_quiet_skip
  go_big_quiet_skip
  go_big_quiet_skip
  go_big_quiet_skip
  go_big_quiet_skip
  exact za3zk2
theorem RSc_bool (kind:Int) (neg:Bool) (V bits:Nat) (text:ByteArray) (aL:Option Addr) (nL cL:Nat) (aK:Option Addr) (nK cK:Nat) (w:World) :
  Calls Tryz.prog 84 #[.string ⟨#[98,111,111,108]⟩,.agg #[.int .i64 kind,.bool neg,.int .u64 (lm V 0:Nat),.int .u64 (lm V 1:Nat),.int .u64 (lm V 2:Nat),.int .u64 (lm V 3:Nat),.int .u64 (bits:Nat),.string text,.slice aL nL cL,.slice aK nK cK]] w fun e w'=>e=.returned (.bool (decide (kind=2)))∧Below w.heap.size w w':=by
 obtain ⟨R,hR⟩:∃ R,R=decide (kind=2):=⟨_,rfl⟩
 rw [← hR]
 go_enter Tryz.func84,Tryz.ntmps84
 by_cases c:kind=2
 ·have c1:(kind == 2)=true:=beq_iff_eq.2 c
  obtain rfl:R=true:=by rw [hR,decide_eq_true c]
  exact za3zk3
 ·have c1:(kind == 2)=false:=beq_false_of_ne c
  obtain rfl:R=false:=by rw [hR,decide_eq_false c]
  clear c hR
  exact za3zk4
theorem RSc_string (kind:Int) (neg:Bool) (V bits:Nat) (text:ByteArray) (aL:Option Addr) (nL cL:Nat) (aK:Option Addr) (nK cK:Nat) (w:World) :
  Calls Tryz.prog 84 #[.string ⟨#[115,116,114,105,110,103]⟩,.agg #[.int .i64 kind,.bool neg,.int .u64 (lm V 0:Nat),.int .u64 (lm V 1:Nat),.int .u64 (lm V 2:Nat),.int .u64 (lm V 3:Nat),.int .u64 (bits:Nat),.string text,.slice aL nL cL,.slice aK nK cK]] w fun e w'=>e=.returned (.bool (decide (kind=5)))∧Below w.heap.size w w':=by
 obtain ⟨R,hR⟩:∃ R,R=decide (kind=5):=⟨_,rfl⟩
 rw [← hR]
 go_enter Tryz.func84,Tryz.ntmps84
 by_cases c:kind=5
 ·have c1:(kind == 5)=true:=beq_iff_eq.2 c
  obtain rfl:R=true:=by rw [hR,decide_eq_true c]
  exact za3zk3
 ·have c1:(kind == 5)=false:=beq_false_of_ne c
  obtain rfl:R=false:=by rw [hR,decide_eq_false c]
  clear c hR
  exact za3zk4
theorem RSc_bytes (kind:Int) (neg:Bool) (V bits:Nat) (text:ByteArray) (aL:Option Addr) (nL cL:Nat) (aK:Option Addr) (nK cK:Nat) (w:World) :
  Calls Tryz.prog 84 #[.string ⟨#[98,121,116,101,115]⟩,.agg #[.int .i64 kind,.bool neg,.int .u64 (lm V 0:Nat),.int .u64 (lm V 1:Nat),.int .u64 (lm V 2:Nat),.int .u64 (lm V 3:Nat),.int .u64 (bits:Nat),.string text,.slice aL nL cL,.slice aK nK cK]] w fun e w'=>e=.returned (.bool (decide (kind=6)))∧Below w.heap.size w w':=by
 obtain ⟨R,hR⟩:∃ R,R=decide (kind=6):=⟨_,rfl⟩
 rw [← hR]
 go_enter Tryz.func84,Tryz.ntmps84
 by_cases c:kind=6
 ·have c1:(kind == 6)=true:=beq_iff_eq.2 c
  obtain rfl:R=true:=by rw [hR,decide_eq_true c]
  exact za3zk3
 ·have c1:(kind == 6)=false:=beq_false_of_ne c
  obtain rfl:R=false:=by rw [hR,decide_eq_false c]
  clear c hR
  exact za3zk4
theorem RSc_double (kind:Int) (neg:Bool) (V bits:Nat) (text:ByteArray) (aL:Option Addr) (nL cL:Nat) (aK:Option Addr) (nK cK:Nat) (hV:V < 2 ^ 256) (w:World) :
  Calls Tryz.prog 84 #[.string ⟨#[100,111,117,98,108,101]⟩,.agg #[.int .i64 kind,.bool neg,.int .u64 (lm V 0:Nat),.int .u64 (lm V 1:Nat),.int .u64 (lm V 2:Nat),.int .u64 (lm V 3:Nat),.int .u64 (bits:Nat),.string text,.slice aL nL cL,.slice aK nK cK]] w fun e w'=>e=.returned (.bool (decide (kind=4) || (decide (kind=3) && exactI neg V)))∧Below w.heap.size w w':=by
 obtain ⟨E,hE⟩:∃ E,exactI neg V=E:=⟨_,rfl⟩
 have C1:=Lib.hid fun wx=>RExact_any neg V hV wx
 rw [hE] at C1 ⊢
 clear hE
 obtain ⟨R,hR⟩:∃ R,R=(decide (kind=4) || (decide (kind=3) && E)):=⟨_,rfl⟩
 rw [← hR]
 go_enter Tryz.func84,Tryz.ntmps84
 by_cases c:kind=4
 ·have c1:(kind == 4)=true:=beq_iff_eq.2 c
  obtain rfl:R=true:=by rw [hR,decide_eq_true c];rfl
  exact za3zk3
 ·have c1:(kind == 4)=false:=beq_false_of_ne c
  by_cases d:kind=3
  ·have d1:(kind == 3)=true:=beq_iff_eq.2 d
   obtain rfl:R=E:=by rw [hR,decide_eq_false c,decide_eq_true d];rfl
   clear c d hR
   repeat any_goals (first|(go_at_call 96;with_reducible refine (C1.out _).mono ?_;rintro e w1 ⟨rfl,hb1⟩)|go_skip|go_guarded|go_step|go_upon|(dsimp only []))
   exact bodyPost_ret (v:=.bool R) z0s rfl ⟨rfl,zb2⟩
  ·have d1:(kind == 3)=false:=beq_false_of_ne d
   obtain rfl:R=false:=by rw [hR,decide_eq_false c,decide_eq_false d];rfl
   clear c d hR
   exact za3zk4
theorem RSc_int32 (kind:Int) (neg:Bool) (V bits:Nat) (text:ByteArray) (aL:Option Addr) (nL cL:Nat) (aK:Option Addr) (nK cK:Nat) (hV:V < 2 ^ 256) (hm:kind=3→mayI neg V=true) (w:World) :
  Calls Tryz.prog 84 #[.string ⟨#[105,110,116,51,50]⟩,.agg #[.int .i64 kind,.bool neg,.int .u64 (lm V 0:Nat),.int .u64 (lm V 1:Nat),.int .u64 (lm V 2:Nat),.int .u64 (lm V 3:Nat),.int .u64 (bits:Nat),.string text,.slice aL nL cL,.slice aK nK cK]] w fun e w'=>e=.returned (.bool (rngT kind neg V (-2147483648) 2147483647))∧Below w.heap.size w w':=by
 obtain ⟨R,hR⟩:∃ R,R=rngT kind neg V (-2147483648) 2147483647:=⟨_,rfl⟩
 rw [← hR]
 have C1:Hid (∀ wx:World,Calls Tryz.prog 95 #[.agg #[.int .i64 kind,.bool neg,.int .u64 (lm V 0:Nat),.int .u64 (lm V 1:Nat),.int .u64 (lm V 2:Nat),.int .u64 (lm V 3:Nat),.int .u64 (bits:Nat),.string text,.slice aL nL cL,.slice aK nK cK],.int .i64 (-2147483648),.int .u64 2147483647] wx fun e w'=>e=.returned (.bool R)∧Below wx.heap.size wx w'):=Lib.hid fun wx=>by
  rw [hR]
  exact within_any kind neg V bits text aL nL cL aK nK cK hV hm (-2147483648) 2147483647 z0e z0e z0e wx
 exact za3zk1
theorem RSc_sint32 (kind:Int) (neg:Bool) (V bits:Nat) (text:ByteArray) (aL:Option Addr) (nL cL:Nat) (aK:Option Addr) (nK cK:Nat) (hV:V < 2 ^ 256) (hm:kind=3→mayI neg V=true) (w:World) :
  Calls Tryz.prog 84 #[.string ⟨#[115,105,110,116,51,50]⟩,.agg #[.int .i64 kind,.bool neg,.int .u64 (lm V 0:Nat),.int .u64 (lm V 1:Nat),.int .u64 (lm V 2:Nat),.int .u64 (lm V 3:Nat),.int .u64 (bits:Nat),.string text,.slice aL nL cL,.slice aK nK cK]] w fun e w'=>e=.returned (.bool (rngT kind neg V (-2147483648) 2147483647))∧Below w.heap.size w w':=by
 obtain ⟨R,hR⟩:∃ R,R=rngT kind neg V (-2147483648) 2147483647:=⟨_,rfl⟩
 rw [← hR]
 have C1:Hid (∀ wx:World,Calls Tryz.prog 95 #[.agg #[.int .i64 kind,.bool neg,.int .u64 (lm V 0:Nat),.int .u64 (lm V 1:Nat),.int .u64 (lm V 2:Nat),.int .u64 (lm V 3:Nat),.int .u64 (bits:Nat),.string text,.slice aL nL cL,.slice aK nK cK],.int .i64 (-2147483648),.int .u64 2147483647] wx fun e w'=>e=.returned (.bool R)∧Below wx.heap.size wx w'):=Lib.hid fun wx=>by
  rw [hR]
  exact within_any kind neg V bits text aL nL cL aK nK cK hV hm (-2147483648) 2147483647 z0e z0e z0e wx
 exact za3zk1
theorem RSc_int64 (kind:Int) (neg:Bool) (V bits:Nat) (text:ByteArray) (aL:Option Addr) (nL cL:Nat) (aK:Option Addr) (nK cK:Nat) (hV:V < 2 ^ 256) (hm:kind=3→mayI neg V=true) (w:World) :
  Calls Tryz.prog 84 #[.string ⟨#[105,110,116,54,52]⟩,.agg #[.int .i64 kind,.bool neg,.int .u64 (lm V 0:Nat),.int .u64 (lm V 1:Nat),.int .u64 (lm V 2:Nat),.int .u64 (lm V 3:Nat),.int .u64 (bits:Nat),.string text,.slice aL nL cL,.slice aK nK cK]] w fun e w'=>e=.returned (.bool (rngT kind neg V (-9223372036854775808) 9223372036854775807))∧Below w.heap.size w w':=by
 obtain ⟨R,hR⟩:∃ R,R=rngT kind neg V (-9223372036854775808) 9223372036854775807:=⟨_,rfl⟩
 rw [← hR]
 have C1:Hid (∀ wx:World,Calls Tryz.prog 95 #[.agg #[.int .i64 kind,.bool neg,.int .u64 (lm V 0:Nat),.int .u64 (lm V 1:Nat),.int .u64 (lm V 2:Nat),.int .u64 (lm V 3:Nat),.int .u64 (bits:Nat),.string text,.slice aL nL cL,.slice aK nK cK],.int .i64 (-9223372036854775808),.int .u64 9223372036854775807] wx fun e w'=>e=.returned (.bool R)∧Below wx.heap.size wx w'):=Lib.hid fun wx=>by
  rw [hR]
  exact within_any kind neg V bits text aL nL cL aK nK cK hV hm (-9223372036854775808) 9223372036854775807 z0e z0e z0e wx
 exact za3zk1
theorem RSc_sint64 (kind:Int) (neg:Bool) (V bits:Nat) (text:ByteArray) (aL:Option Addr) (nL cL:Nat) (aK:Option Addr) (nK cK:Nat) (hV:V < 2 ^ 256) (hm:kind=3→mayI neg V=true) (w:World) :
  Calls Tryz.prog 84 #[.string ⟨#[115,105,110,116,54,52]⟩,.agg #[.int .i64 kind,.bool neg,.int .u64 (lm V 0:Nat),.int .u64 (lm V 1:Nat),.int .u64 (lm V 2:Nat),.int .u64 (lm V 3:Nat),.int .u64 (bits:Nat),.string text,.slice aL nL cL,.slice aK nK cK]] w fun e w'=>e=.returned (.bool (rngT kind neg V (-9223372036854775808) 9223372036854775807))∧Below w.heap.size w w':=by
 obtain ⟨R,hR⟩:∃ R,R=rngT kind neg V (-9223372036854775808) 9223372036854775807:=⟨_,rfl⟩
 rw [← hR]
 have C1:Hid (∀ wx:World,Calls Tryz.prog 95 #[.agg #[.int .i64 kind,.bool neg,.int .u64 (lm V 0:Nat),.int .u64 (lm V 1:Nat),.int .u64 (lm V 2:Nat),.int .u64 (lm V 3:Nat),.int .u64 (bits:Nat),.string text,.slice aL nL cL,.slice aK nK cK],.int .i64 (-9223372036854775808),.int .u64 9223372036854775807] wx fun e w'=>e=.returned (.bool R)∧Below wx.heap.size wx w'):=Lib.hid fun wx=>by
  rw [hR]
  exact within_any kind neg V bits text aL nL cL aK nK cK hV hm (-9223372036854775808) 9223372036854775807 z0e z0e z0e wx
 exact za3zk1
theorem RSc_uint32 (kind:Int) (neg:Bool) (V bits:Nat) (text:ByteArray) (aL:Option Addr) (nL cL:Nat) (aK:Option Addr) (nK cK:Nat) (hV:V < 2 ^ 256) (hm:kind=3→mayI neg V=true) (w:World) :
  Calls Tryz.prog 84 #[.string ⟨#[117,105,110,116,51,50]⟩,.agg #[.int .i64 kind,.bool neg,.int .u64 (lm V 0:Nat),.int .u64 (lm V 1:Nat),.int .u64 (lm V 2:Nat),.int .u64 (lm V 3:Nat),.int .u64 (bits:Nat),.string text,.slice aL nL cL,.slice aK nK cK]] w fun e w'=>e=.returned (.bool (rngT kind neg V (0) 4294967295))∧Below w.heap.size w w':=by
 obtain ⟨R,hR⟩:∃ R,R=rngT kind neg V (0) 4294967295:=⟨_,rfl⟩
 rw [← hR]
 have C1:Hid (∀ wx:World,Calls Tryz.prog 95 #[.agg #[.int .i64 kind,.bool neg,.int .u64 (lm V 0:Nat),.int .u64 (lm V 1:Nat),.int .u64 (lm V 2:Nat),.int .u64 (lm V 3:Nat),.int .u64 (bits:Nat),.string text,.slice aL nL cL,.slice aK nK cK],.int .i64 (0),.int .u64 4294967295] wx fun e w'=>e=.returned (.bool R)∧Below wx.heap.size wx w'):=Lib.hid fun wx=>by
  rw [hR]
  exact within_any kind neg V bits text aL nL cL aK nK cK hV hm (0) 4294967295 z0e z0e z0e wx
 exact za3zk1
theorem RSc_uint64 (kind:Int) (neg:Bool) (V bits:Nat) (text:ByteArray) (aL:Option Addr) (nL cL:Nat) (aK:Option Addr) (nK cK:Nat) (hV:V < 2 ^ 256) (hm:kind=3→mayI neg V=true) (w:World) :
  Calls Tryz.prog 84 #[.string ⟨#[117,105,110,116,54,52]⟩,.agg #[.int .i64 kind,.bool neg,.int .u64 (lm V 0:Nat),.int .u64 (lm V 1:Nat),.int .u64 (lm V 2:Nat),.int .u64 (lm V 3:Nat),.int .u64 (bits:Nat),.string text,.slice aL nL cL,.slice aK nK cK]] w fun e w'=>e=.returned (.bool (rngT kind neg V (0) 18446744073709551615))∧Below w.heap.size w w':=by
 obtain ⟨R,hR⟩:∃ R,R=rngT kind neg V (0) 18446744073709551615:=⟨_,rfl⟩
 rw [← hR]
 have C1:Hid (∀ wx:World,Calls Tryz.prog 95 #[.agg #[.int .i64 kind,.bool neg,.int .u64 (lm V 0:Nat),.int .u64 (lm V 1:Nat),.int .u64 (lm V 2:Nat),.int .u64 (lm V 3:Nat),.int .u64 (bits:Nat),.string text,.slice aL nL cL,.slice aK nK cK],.int .i64 (0),.int .u64 18446744073709551615] wx fun e w'=>e=.returned (.bool R)∧Below wx.heap.size wx w'):=Lib.hid fun wx=>by
  rw [hR]
  exact within_any kind neg V bits text aL nL cL aK nK cK hV hm (0) 18446744073709551615 z0e z0e z0e wx
 exact za3zk1
theorem RSc_any (s:ByteArray) (hs:scalarB s=true) (kind:Int) (neg:Bool) (V bits:Nat) (text:ByteArray) (aL:Option Addr) (nL cL:Nat) (aK:Option Addr) (nK cK:Nat) (hV:V < 2 ^ 256) (hm:kind=3→mayI neg V=true) (w:World) :
  Calls Tryz.prog 84 #[.string s,.agg #[.int .i64 kind,.bool neg,.int .u64 (lm V 0:Nat),.int .u64 (lm V 1:Nat),.int .u64 (lm V 2:Nat),.int .u64 (lm V 3:Nat),.int .u64 (bits:Nat),.string text,.slice aL nL cL,.slice aK nK cK]] w fun e w'=>e=.returned (.bool (scT s.toList kind neg V))∧Below w.heap.size w w':=by
 obtain ⟨l,hl,he⟩:=List.any_eq_true.1 hs
 have he:=beq_iff_eq.1 he
 simp only [scalarL,List.mem_cons,List.not_mem_nil,or_false] at hl
 rcases hl with rfl|rfl|rfl|rfl|rfl|rfl|rfl|rfl|rfl|rfl
 ·obtain rfl:=mk_of he
  rw [show scT (ByteArray.mk ([100,111,117,98,108,101]:List UInt8).toArray).toList kind neg V=(decide (kind=4) || (decide (kind=3) && exactI neg V)) from by rw [tl];rfl]
  exact RSc_double kind neg V bits text aL nL cL aK nK cK hV w
 ·obtain rfl:=mk_of he
  rw [show scT (ByteArray.mk ([105,110,116,51,50]:List UInt8).toArray).toList kind neg V=(rngT kind neg V (-2147483648) 2147483647) from by rw [tl];rfl]
  exact RSc_int32 kind neg V bits text aL nL cL aK nK cK hV hm w
 ·obtain rfl:=mk_of he
  rw [show scT (ByteArray.mk ([105,110,116,54,52]:List UInt8).toArray).toList kind neg V=(rngT kind neg V (-9223372036854775808) 9223372036854775807) from by rw [tl];rfl]
  exact RSc_int64 kind neg V bits text aL nL cL aK nK cK hV hm w
 ·obtain rfl:=mk_of he
  rw [show scT (ByteArray.mk ([117,105,110,116,51,50]:List UInt8).toArray).toList kind neg V=(rngT kind neg V (0) 4294967295) from by rw [tl];rfl]
  exact RSc_uint32 kind neg V bits text aL nL cL aK nK cK hV hm w
 ·obtain rfl:=mk_of he
  rw [show scT (ByteArray.mk ([117,105,110,116,54,52]:List UInt8).toArray).toList kind neg V=(rngT kind neg V (0) 18446744073709551615) from by rw [tl];rfl]
  exact RSc_uint64 kind neg V bits text aL nL cL aK nK cK hV hm w
 ·obtain rfl:=mk_of he
  rw [show scT (ByteArray.mk ([115,105,110,116,51,50]:List UInt8).toArray).toList kind neg V=(rngT kind neg V (-2147483648) 2147483647) from by rw [tl];rfl]
  exact RSc_sint32 kind neg V bits text aL nL cL aK nK cK hV hm w
 ·obtain rfl:=mk_of he
  rw [show scT (ByteArray.mk ([115,105,110,116,54,52]:List UInt8).toArray).toList kind neg V=(rngT kind neg V (-9223372036854775808) 9223372036854775807) from by rw [tl];rfl]
  exact RSc_sint64 kind neg V bits text aL nL cL aK nK cK hV hm w
 ·obtain rfl:=mk_of he
  rw [show scT (ByteArray.mk ([98,111,111,108]:List UInt8).toArray).toList kind neg V=(decide (kind=2)) from by rw [tl];rfl]
  exact RSc_bool kind neg V bits text aL nL cL aK nK cK w
 ·obtain rfl:=mk_of he
  rw [show scT (ByteArray.mk ([115,116,114,105,110,103]:List UInt8).toArray).toList kind neg V=(decide (kind=5)) from by rw [tl];rfl]
  exact RSc_string kind neg V bits text aL nL cL aK nK cK w
 ·obtain rfl:=mk_of he
  rw [show scT (ByteArray.mk ([98,121,116,101,115]:List UInt8).toArray).toList kind neg V=(decide (kind=6)) from by rw [tl];rfl]
  exact RSc_bytes kind neg V bits text aL nL cL aK nK cK w
end Go.Proofs.YtfondldmmcmloaaGreatDoor
