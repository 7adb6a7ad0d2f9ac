/- PG. -/
import Derived.Test.YtfondldmmcmloaaDoorPd14
set_option maxRecDepth 1000000
set_option maxHeartbeats 8000000
namespace Go.Proofs.YtfondldmmcmloaaDoor
open Go Go.RowKit
theorem z15zk1 {p:Prop} (h:p:=by
 rw [← hR]
 have HR:=Lib.hid hR
 clear hR
 go_enter Tryd.func74,Tryd.ntmps74
 go_upto_region 10 with fail
 have V0:=Lib.hid (vbx_new w 35 kind neg V bits text aL nL cL aK nK cK)
 have hW0:=below_alloc (Below.refl w.heap.size w) (.cells #[.int .i64 kind,.bool neg,.int .u64 (lm V 0:Nat),.int .u64 (lm V 1:Nat),.int .u64 (lm V 2:Nat),.int .u64 (lm V 3:Nat),.int .u64 (bits:Nat),.string text,.slice aL nL cL,.slice aK nK cK] 35)
 generalize w.alloc (.cells #[.int .i64 kind,.bool neg,.int .u64 (lm V 0:Nat),.int .u64 (lm V 1:Nat),.int .u64 (lm V 2:Nat),.int .u64 (lm V 3:Nat),.int .u64 (bits:Nat),.string text,.slice aL nL cL,.slice aK nK cK] 35)=w0 at *
 obtain ⟨B0,hB0⟩:∃ B,B=w.heap.size:=⟨_,rfl⟩
 rw [← hB0] at V0 ⊢
 clear hB0
 go_upto_region 11 with (go_at_call 80;with_reducible refine (CB.out _).mono ?_;rintro e w1 ⟨rfl,hb1⟩)
 have S2:=Lib.hid (show SBx12 (w1.alloc (.cells #[.bool true,.bool true,.bool ln,.int .u64 (lm lv 0:Nat),.int .u64 (lm lv 1:Nat),.int .u64 (lm lv 2:Nat),.int .u64 (lm lv 3:Nat),.bool un,.int .u64 (lm uv 0:Nat),.int .u64 (lm uv 1:Nat),.int .u64 (lm uv 2:Nat),.int .u64 (lm uv 3:Nat)] 117)) w1.heap.size ln lv un uv from ⟨by simp [go_sem]⟩)
 have V2:=Lib.hid ((V0.out.below hb1).below (below_alloc (Below.refl _ _) (.cells #[.bool true,.bool true,.bool ln,.int .u64 (lm lv 0:Nat),.int .u64 (lm lv 1:Nat),.int .u64 (lm lv 2:Nat),.int .u64 (lm lv 3:Nat),.bool un,.int .u64 (lm uv 0:Nat),.int .u64 (lm uv 1:Nat),.int .u64 (lm uv 2:Nat),.int .u64 (lm uv 3:Nat)] 117)))
 have hW2:=below_alloc (below_trans hW0 hb1) (.cells #[.bool true,.bool true,.bool ln,.int .u64 (lm lv 0:Nat),.int .u64 (lm lv 1:Nat),.int .u64 (lm lv 2:Nat),.int .u64 (lm lv 3:Nat),.bool un,.int .u64 (lm uv 0:Nat),.int .u64 (lm uv 1:Nat),.int .u64 (lm uv 2:Nat),.int .u64 (lm uv 3:Nat)] 117)
 generalize w1.alloc (.cells #[.bool true,.bool true,.bool ln,.int .u64 (lm lv 0:Nat),.int .u64 (lm lv 1:Nat),.int .u64 (lm lv 2:Nat),.int .u64 (lm lv 3:Nat),.bool un,.int .u64 (lm uv 0:Nat),.int .u64 (lm uv 1:Nat),.int .u64 (lm uv 2:Nat),.int .u64 (lm uv 3:Nat)] 117)=w2 at *
 obtain ⟨B1,hB1⟩:∃ B,B=w1.heap.size:=⟨_,rfl⟩
 rw [← hB1] at S2 ⊢
 clear hB1 hb1
 obtain ⟨_,_,_,_,_,_,_,_,_,_⟩:=V2.out.all
 obtain ⟨_,_,_,_,_,_,_,_,_,_⟩:=S2.out.all
 by_cases d:kind=3
 ·have d1:(kind == 3)=true:=beq_iff_eq.2 d
  have J:=Lib.hid (J.out d)
  have D:=Lib.hid d
  clear d
  by_cases c1:z1≤0
  ·by_cases c2:z2≤0
   ·have e:R=true:=by rw [HR.out];unfold rngT;rw [decide_eq_true D.out,decide_eq_true (J.out.1.1 c1),decide_eq_true (J.out.2.1 c2)];rfl
    subst e
    repeat any_goals (first|(go_at_call 81;with_reducible refine (C1.out _).mono ?_;rintro e w3 ⟨rfl,hb3⟩;have S3:=Lib.hid (S2.out.below hb3);have V3:=Lib.hid (V2.out.below hb3);obtain ⟨_,_,_,_,_,_,_,_,_,_⟩:=S3.out.all;obtain ⟨_,_,_,_,_,_,_,_,_,_⟩:=V3.out.all)|(go_at_call 81;with_reducible refine (C2.out _).mono ?_;rintro e w4 ⟨rfl,hb4⟩)|go_skip|go_guarded|go_step|go_upon|(dsimp only []))
    exact bodyPost_ret (v:=.bool true) z0e rfl ⟨rfl,below_trans (below_trans hW2 hb3) hb4⟩
   ·have e:R=false:=by rw [HR.out];unfold rngT;rw [decide_eq_false (fun h=>c2 (J.out.2.2 h)),Bool.and_false,Bool.and_false]
    subst e
    repeat any_goals (first|(go_at_call 81;with_reducible refine (C1.out _).mono ?_;rintro e w3 ⟨rfl,hb3⟩;have S3:=Lib.hid (S2.out.below hb3);have V3:=Lib.hid (V2.out.below hb3);obtain ⟨_,_,_,_,_,_,_,_,_,_⟩:=S3.out.all;obtain ⟨_,_,_,_,_,_,_,_,_,_⟩:=V3.out.all)|(go_at_call 81;with_reducible refine (C2.out _).mono ?_;rintro e w4 ⟨rfl,hb4⟩)|go_skip|go_guarded|go_step|go_upon|(dsimp only []))
    exact bodyPost_ret (v:=.bool false) z0e rfl ⟨rfl,below_trans (below_trans hW2 hb3) hb4⟩
  ·have e:R=false:=by rw [HR.out];unfold rngT;rw [decide_eq_false (fun h=>c1 (J.out.1.2 h)),Bool.false_and,Bool.and_false]
   subst e
   repeat any_goals (first|(go_at_call 81;with_reducible refine (C1.out _).mono ?_;rintro e w3 ⟨rfl,hb3⟩;have S3:=Lib.hid (S2.out.below hb3);have V3:=Lib.hid (V2.out.below hb3);obtain ⟨_,_,_,_,_,_,_,_,_,_⟩:=S3.out.all;obtain ⟨_,_,_,_,_,_,_,_,_,_⟩:=V3.out.all)|go_skip|go_guarded|go_step|go_upon|(dsimp only []))
   exact bodyPost_ret (v:=.bool false) z0e rfl ⟨rfl,below_trans hW2 hb3⟩
 ·have d1:(kind == 3)=false:=beq_false_of_ne d
  have e:R=false:=by rw [HR.out];unfold rngT;rw [decide_eq_false d];rfl
  subst e
  clear d
  repeat any_goals (first|go_skip|go_guarded|go_step|go_upon|(simp only [];done))
  exact bodyPost_ret (v:=.bool false) z0e rfl ⟨rfl,hW2⟩):p:=h
theorem z15zk2 {p:Prop} (h:p:=by
 rw [← hu.1,← hu.2] at CH
 clear hl hu
 go_enter Tryd.func80,Tryd.ntmps80
 go_upto_region 2 with fail
 have Z0:=Lib.hid ((twf_new w 117 (.bool false) (.bool false) (.bool false) (.int .u64 0) (.int .u64 0) (.int .u64 0) (.int .u64 0) (.bool false) (.int .u64 0) (.int .u64 0) (.int .u64 0) (.int .u64 0)).below (below_alloc (Below.refl _ _) (.cells #[.bool true,.bool true,.bool false,.int .u64 0,.int .u64 0,.int .u64 0,.int .u64 0,.bool false,.int .u64 0,.int .u64 0,.int .u64 0,.int .u64 0] 117)))
 have S0:TwF ((w.alloc (.cells #[.bool false,.bool false,.bool false,.int .u64 0,.int .u64 0,.int .u64 0,.int .u64 0,.bool false,.int .u64 0,.int .u64 0,.int .u64 0,.int .u64 0] 117)).alloc (.cells #[.bool true,.bool true,.bool false,.int .u64 0,.int .u64 0,.int .u64 0,.int .u64 0,.bool false,.int .u64 0,.int .u64 0,.int .u64 0,.int .u64 0] 117)) (w.heap.size+1) (.bool true) (.bool true) (.bool false) (.int .u64 0) (.int .u64 0) (.int .u64 0) (.int .u64 0) (.bool false) (.int .u64 0) (.int .u64 0) (.int .u64 0) (.int .u64 0):=by
  have e:=twf_new (w.alloc (.cells #[.bool false,.bool false,.bool false,.int .u64 0,.int .u64 0,.int .u64 0,.int .u64 0,.bool false,.int .u64 0,.int .u64 0,.int .u64 0,.int .u64 0] 117)) 117 (.bool true) (.bool true) (.bool false) (.int .u64 0) (.int .u64 0) (.int .u64 0) (.int .u64 0) (.bool false) (.int .u64 0) (.int .u64 0) (.int .u64 0) (.int .u64 0)
  rw [show (w.alloc (.cells #[.bool false,.bool false,.bool false,.int .u64 0,.int .u64 0,.int .u64 0,.int .u64 0,.bool false,.int .u64 0,.int .u64 0,.int .u64 0,.int .u64 0] 117)).heap.size=w.heap.size+1 from by simp] at e
  exact e
 have S0:=Lib.hid S0
 have hW0:=below_alloc (below_alloc (Below.refl w.heap.size w) (.cells #[.bool false,.bool false,.bool false,.int .u64 0,.int .u64 0,.int .u64 0,.int .u64 0,.bool false,.int .u64 0,.int .u64 0,.int .u64 0,.int .u64 0] 117)) (.cells #[.bool true,.bool true,.bool false,.int .u64 0,.int .u64 0,.int .u64 0,.int .u64 0,.bool false,.int .u64 0,.int .u64 0,.int .u64 0,.int .u64 0] 117)
 generalize ((w.alloc (.cells #[.bool false,.bool false,.bool false,.int .u64 0,.int .u64 0,.int .u64 0,.int .u64 0,.bool false,.int .u64 0,.int .u64 0,.int .u64 0,.int .u64 0] 117)).alloc (.cells #[.bool true,.bool true,.bool false,.int .u64 0,.int .u64 0,.int .u64 0,.int .u64 0,.bool false,.int .u64 0,.int .u64 0,.int .u64 0,.int .u64 0] 117))=w0 at *
 obtain ⟨Bs,hBs⟩:∃ B,B=w.heap.size+1:=⟨_,rfl⟩
 rw [← hBs] at S0 ⊢
 obtain ⟨Bz,hBz⟩:∃ B,B=w.heap.size:=⟨_,rfl⟩
 rw [← hBz] at Z0 ⊢
 have HZ:=Lib.hid (show w.heap.size≤Bz∧w.heap.size≤Bs∧Bz≠Bs∧Bs≠Bz by omega)
 clear hBs hBz
 go_upto_region 14 with (first|(go_at_call 87;with_reducible refine (CL.out _).mono ?_;rintro e w1 ⟨rfl,hb1⟩)|(go_at_call 87;with_reducible refine (CH.out _).mono ?_;rintro e w2 ⟨rfl,hb2⟩;have Z2:=Lib.hid (Z0.out.below (below_trans hb1 hb2));have S2:=Lib.hid (S0.out.below (below_trans hb1 hb2));obtain ⟨_,_,_,_,_,_,_,_,_,_,_,_⟩:=S2.out.c;have hf_S2:=S2.out.f))
 have hW2:=below_trans hW0 (below_trans hb1 hb2)
 have n1:=HZ.out.2.2.1
 have n2:=HZ.out.2.2.2
 have S3:=Lib.hid (S2.out.set10 (.bool ln) (.int .u64 (lm lv 0:Nat)) (.int .u64 (lm lv 1:Nat)) (.int .u64 (lm lv 2:Nat)) (.int .u64 (lm lv 3:Nat)) (.bool un) (.int .u64 (lm uv 0:Nat)) (.int .u64 (lm uv 1:Nat)) (.int .u64 (lm uv 2:Nat)) (.int .u64 (lm uv 3:Nat)))
 have Z3:=Lib.hid (Z2.out.far10 HZ.out.2.2.2 (.bool ln) (.int .u64 (lm lv 0:Nat)) (.int .u64 (lm lv 1:Nat)) (.int .u64 (lm lv 2:Nat)) (.int .u64 (lm lv 3:Nat)) (.bool un) (.int .u64 (lm uv 0:Nat)) (.int .u64 (lm uv 1:Nat)) (.int .u64 (lm uv 2:Nat)) (.int .u64 (lm uv 3:Nat)))
 have hs3:w2.heap.size≤((((((((((w2.setCell ⟨Bs,2,none⟩ (.bool ln)).setCell ⟨Bs,3,none⟩ (.int .u64 (lm lv 0:Nat))).setCell ⟨Bs,4,none⟩ (.int .u64 (lm lv 1:Nat))).setCell ⟨Bs,5,none⟩ (.int .u64 (lm lv 2:Nat))).setCell ⟨Bs,6,none⟩ (.int .u64 (lm lv 3:Nat))).setCell ⟨Bs,7,none⟩ (.bool un)).setCell ⟨Bs,8,none⟩ (.int .u64 (lm uv 0:Nat))).setCell ⟨Bs,9,none⟩ (.int .u64 (lm uv 1:Nat))).setCell ⟨Bs,10,none⟩ (.int .u64 (lm uv 2:Nat))).setCell ⟨Bs,11,none⟩ (.int .u64 (lm uv 3:Nat))).heap.size:=by simp only [World.size_setCell];exact Nat.le_refl _
 have hW3:Below w.heap.size w ((((((((((w2.setCell ⟨Bs,2,none⟩ (.bool ln)).setCell ⟨Bs,3,none⟩ (.int .u64 (lm lv 0:Nat))).setCell ⟨Bs,4,none⟩ (.int .u64 (lm lv 1:Nat))).setCell ⟨Bs,5,none⟩ (.int .u64 (lm lv 2:Nat))).setCell ⟨Bs,6,none⟩ (.int .u64 (lm lv 3:Nat))).setCell ⟨Bs,7,none⟩ (.bool un)).setCell ⟨Bs,8,none⟩ (.int .u64 (lm uv 0:Nat))).setCell ⟨Bs,9,none⟩ (.int .u64 (lm uv 1:Nat))).setCell ⟨Bs,10,none⟩ (.int .u64 (lm uv 2:Nat))).setCell ⟨Bs,11,none⟩ (.int .u64 (lm uv 3:Nat))):=by have hz2:=HZ.out.2.1;exact zb2
 generalize ((((((((((w2.setCell ⟨Bs,2,none⟩ (.bool ln)).setCell ⟨Bs,3,none⟩ (.int .u64 (lm lv 0:Nat))).setCell ⟨Bs,4,none⟩ (.int .u64 (lm lv 1:Nat))).setCell ⟨Bs,5,none⟩ (.int .u64 (lm lv 2:Nat))).setCell ⟨Bs,6,none⟩ (.int .u64 (lm lv 3:Nat))).setCell ⟨Bs,7,none⟩ (.bool un)).setCell ⟨Bs,8,none⟩ (.int .u64 (lm uv 0:Nat))).setCell ⟨Bs,9,none⟩ (.int .u64 (lm uv 1:Nat))).setCell ⟨Bs,10,none⟩ (.int .u64 (lm uv 2:Nat))).setCell ⟨Bs,11,none⟩ (.int .u64 (lm uv 3:Nat)))=w3 at *
 obtain ⟨_,_,_,_,_,_,_,_,_,_,_,_⟩:=S3.out.c;have hf_S3:=S3.out.f
 obtain ⟨_,_,_,_,_,_,_,_,_,_,_,_⟩:=Z3.out.c;have hf_Z3:=Z3.out.f
 repeat any_goals (first|go_skip|go_guarded|go_step|go_upon|(simp only [];done))
 have hz1:=HZ.out.1
 exact bodyPost_ret (v:=.tuple #[.agg #[.bool true,.bool true,.bool ln,.int .u64 (lm lv 0:Nat),.int .u64 (lm lv 1:Nat),.int .u64 (lm lv 2:Nat),.int .u64 (lm lv 3:Nat),.bool un,.int .u64 (lm uv 0:Nat),.int .u64 (lm uv 1:Nat),.int .u64 (lm uv 2:Nat),.int .u64 (lm uv 3:Nat)],.bool true]) z0a1 rfl ⟨rfl,zb2⟩):p:=h
theorem z15zk3 {p:Prop} (h:p:=by
 have e:=twf_new (w.alloc (.cells #[.bool false,.bool false,.bool false,.int .u64 0,.int .u64 0,.int .u64 0,.int .u64 0,.bool false,.int .u64 0,.int .u64 0,.int .u64 0,.int .u64 0] 117)) 117 (.bool true) (.bool true) (.bool false) (.int .u64 0) (.int .u64 0) (.int .u64 0) (.int .u64 0) (.bool false) (.int .u64 0) (.int .u64 0) (.int .u64 0) (.int .u64 0)
 rw [show (w.alloc (.cells #[.bool false,.bool false,.bool false,.int .u64 0,.int .u64 0,.int .u64 0,.int .u64 0,.bool false,.int .u64 0,.int .u64 0,.int .u64 0,.int .u64 0] 117)).heap.size=w.heap.size+1 from by simp] at e
 exact e):p:=h
theorem z15zk4 {p:Prop} (h:p:=by
 have hW2:=below_trans hW0 hb2
 have n1:=HZ.out.2.2.1
 have n2:=HZ.out.2.2.2
 have S3:=Lib.hid (S2.out.set5 (.bool un) (.int .u64 (lm uv 0:Nat)) (.int .u64 (lm uv 1:Nat)) (.int .u64 (lm uv 2:Nat)) (.int .u64 (lm uv 3:Nat)))
 have Z3:=Lib.hid (Z2.out.far5 HZ.out.2.2.2 (.bool un) (.int .u64 (lm uv 0:Nat)) (.int .u64 (lm uv 1:Nat)) (.int .u64 (lm uv 2:Nat)) (.int .u64 (lm uv 3:Nat)))
 have hs3:w2.heap.size≤(((((w2.setCell ⟨Bs,7,none⟩ (.bool un)).setCell ⟨Bs,8,none⟩ (.int .u64 (lm uv 0:Nat))).setCell ⟨Bs,9,none⟩ (.int .u64 (lm uv 1:Nat))).setCell ⟨Bs,10,none⟩ (.int .u64 (lm uv 2:Nat))).setCell ⟨Bs,11,none⟩ (.int .u64 (lm uv 3:Nat))).heap.size:=by simp only [World.size_setCell];exact Nat.le_refl _
 have hW3:Below w.heap.size w (((((w2.setCell ⟨Bs,7,none⟩ (.bool un)).setCell ⟨Bs,8,none⟩ (.int .u64 (lm uv 0:Nat))).setCell ⟨Bs,9,none⟩ (.int .u64 (lm uv 1:Nat))).setCell ⟨Bs,10,none⟩ (.int .u64 (lm uv 2:Nat))).setCell ⟨Bs,11,none⟩ (.int .u64 (lm uv 3:Nat))):=by have hz2:=HZ.out.2.1;exact zb2
 generalize (((((w2.setCell ⟨Bs,7,none⟩ (.bool un)).setCell ⟨Bs,8,none⟩ (.int .u64 (lm uv 0:Nat))).setCell ⟨Bs,9,none⟩ (.int .u64 (lm uv 1:Nat))).setCell ⟨Bs,10,none⟩ (.int .u64 (lm uv 2:Nat))).setCell ⟨Bs,11,none⟩ (.int .u64 (lm uv 3:Nat)))=w3 at *
 obtain ⟨_,_,_,_,_,_,_,_,_,_,_,_⟩:=S3.out.c;have hf_S3:=S3.out.f
 obtain ⟨_,_,_,_,_,_,_,_,_,_,_,_⟩:=Z3.out.c;have hf_Z3:=Z3.out.f
 repeat any_goals (first|go_skip|go_guarded|go_step|go_upon|(simp only [];done))
 have hz1:=HZ.out.1
 exact bodyPost_ret (v:=.tuple #[.agg #[.bool true,.bool true,.bool false,.int .u64 0,.int .u64 0,.int .u64 0,.int .u64 0,.bool un,.int .u64 (lm uv 0:Nat),.int .u64 (lm uv 1:Nat),.int .u64 (lm uv 2:Nat),.int .u64 (lm uv 3:Nat)],.bool true]) z0a1 rfl ⟨rfl,zb2⟩):p:=h
theorem z15zk5 {p:Prop} (h:p:=by
 clear c hR
 repeat any_goals (first|go_skip|go_guarded|go_step|go_upon|(simp only [];done))
 exact bodyPost_ret (v:=.bool true) z0e rfl ⟨rfl,zb2⟩):p:=h
theorem z15zk6 {p:Prop} (h:p:=by
 repeat any_goals (first|go_skip|go_guarded|go_step|go_upon|(simp only [];done))
 exact bodyPost_ret (v:=.bool false) z0e rfl ⟨rfl,zb2⟩):p:=h
end Go.Proofs.YtfondldmmcmloaaDoor
namespace Go.Proofs.YtfondldmmcmloaaDoor
open Go.RowKit
def rngT (kind:Int) (neg:Bool) (V:Nat) (lo hi:Int):Bool:=decide (kind=3) && (decide (lo≤zI neg V) && decide (zI neg V≤hi))
def scT (l:List UInt8) (kind:Int) (neg:Bool) (V:Nat):Bool:=
 if l=[100,111,117,98,108,101] then decide (kind=4) || (decide (kind=3) && exactI neg V) else if l=[98,111,111,108] then decide (kind=2) else if l=[115,116,114,105,110,103] then decide (kind=5) else if l=[98,121,116,101,115] then decide (kind=6) else
 if l=[105,110,116,51,50]∨l=[115,105,110,116,51,50] then rngT kind neg V (-2147483648) 2147483647 else if l=[105,110,116,54,52]∨l=[115,105,110,116,54,52] then rngT kind neg V (-9223372036854775808) 9223372036854775807 else if l=[117,105,110,116,51,50] then rngT kind neg V 0 4294967295 else rngT kind neg V 0 18446744073709551615
theorem tl (a:Array UInt8):(ByteArray.mk a).toList=a.toList:=by rw [ByteArray.toList_eq]
theorem mk_of {s:ByteArray} {l:List UInt8} (h:s.toList=l):s=⟨l.toArray⟩:=toList_inj (by rw [h,tl])
theorem cmpZ_nonpos {p q:Int}:cmpZ p q≤0↔p≤q:=by
 unfold cmpZ
 split
 ·omega
 ·split <;> omega
theorem mayI_sgz (z:Int):mayI (sg z) (ab z)=true:=by
 unfold mayI sg ab
 by_cases h:z < 0
 ·simp [h];omega
 ·simp [h]
theorem zI_sgz (z:Int):zI (sg z) (ab z)=z:=by
 unfold zI sg ab
 by_cases h:z < 0
 ·simp [h];omega
 ·simp [h];omega
theorem vbx_new (w:World) (t:TypeId) (kind:Int) (neg:Bool) (V bits:Nat) (text:ByteArray) (aL:Option Addr) (nL cL:Nat) (aK:Option Addr) (nK cK:Nat):VBx (w.alloc (.cells #[.int .i64 kind,.bool neg,.int .u64 (lm V 0:Nat),.int .u64 (lm V 1:Nat),.int .u64 (lm V 2:Nat),.int .u64 (lm V 3:Nat),.int .u64 (bits:Nat),.string text,.slice aL nL cL,.slice aK nK cK] t)) w.heap.size kind neg V bits text aL nL cL aK nK cK:=⟨by simp [go_sem]⟩
structure TwF (w:World) (B:Nat) (a0 a1 a2 a3 a4 a5 a6 a7 a8 a9 b0 b1:Value):Prop where
 c:w.cell? ⟨B,0,none⟩=some a0∧w.cell? ⟨B,1,none⟩=some a1∧w.cell? ⟨B,2,none⟩=some a2∧w.cell? ⟨B,3,none⟩=some a3∧w.cell? ⟨B,4,none⟩=some a4∧w.cell? ⟨B,5,none⟩=some a5∧w.cell? ⟨B,6,none⟩=some a6∧w.cell? ⟨B,7,none⟩=some a7∧w.cell? ⟨B,8,none⟩=some a8∧w.cell? ⟨B,9,none⟩=some a9∧w.cell? ⟨B,10,none⟩=some b0∧w.cell? ⟨B,11,none⟩=some b1
 f:∀ j,w.frozen? ⟨B,j,none⟩=false
theorem TwF.lt {w:World} {B:Nat} {a0 a1 a2 a3 a4 a5 a6 a7 a8 a9 b0 b1:Value} (h:TwF w B a0 a1 a2 a3 a4 a5 a6 a7 a8 a9 b0 b1):B < w.heap.size:=World.block_lt_of_cell? w ⟨B,0,none⟩ h.c.1
theorem TwF.below {w w1:World} {B:Nat} {a0 a1 a2 a3 a4 a5 a6 a7 a8 a9 b0 b1:Value} (h:TwF w B a0 a1 a2 a3 a4 a5 a6 a7 a8 a9 b0 b1) (hb:Below w.heap.size w w1):TwF w1 B a0 a1 a2 a3 a4 a5 a6 a7 a8 a9 b0 b1:=by
 have hl:=h.lt
 obtain ⟨⟨h0,h1,h2,h3,h4,h5,h6,h7,h8,h9,ha,hb2⟩,hf⟩:=h
 exact ⟨⟨keep_cell hb h0,keep_cell hb h1,keep_cell hb h2,keep_cell hb h3,keep_cell hb h4,keep_cell hb h5,keep_cell hb h6,keep_cell hb h7,keep_cell hb h8,keep_cell hb h9,keep_cell hb ha,keep_cell hb hb2⟩,fun j=>by rw [hb.frozen (p:=⟨B,j,none⟩) hl];exact hf j⟩
theorem twf_new (w:World) (t:TypeId) (a0 a1 a2 a3 a4 a5 a6 a7 a8 a9 b0 b1:Value):TwF (w.alloc (.cells #[a0,a1,a2,a3,a4,a5,a6,a7,a8,a9,b0,b1] t)) w.heap.size a0 a1 a2 a3 a4 a5 a6 a7 a8 a9 b0 b1:=⟨by simp [go_sem],fun j=>by simp [go_sem]⟩
theorem set_far {w:World} {p q:Addr} {v x:Value} (h:p≠q) (hc:w.cell? q=some x):(w.setCell p v).cell? q=some x:=by rw [set_other h];exact hc
theorem TwF.set10 {w:World} {B:Nat} {a0 a1 a2 a3 a4 a5 a6 a7 a8 a9 b0 b1:Value} (h:TwF w B a0 a1 a2 a3 a4 a5 a6 a7 a8 a9 b0 b1) (v2 v3 v4 v5 v6 v7 v8 v9 v10 v11:Value):TwF ((((((((((w.setCell ⟨B,2,none⟩ v2).setCell ⟨B,3,none⟩ v3).setCell ⟨B,4,none⟩ v4).setCell ⟨B,5,none⟩ v5).setCell ⟨B,6,none⟩ v6).setCell ⟨B,7,none⟩ v7).setCell ⟨B,8,none⟩ v8).setCell ⟨B,9,none⟩ v9).setCell ⟨B,10,none⟩ v10).setCell ⟨B,11,none⟩ v11) B a0 a1 v2 v3 v4 v5 v6 v7 v8 v9 v10 v11:=by
 obtain ⟨⟨h0,h1,h2,h3,h4,h5,h6,h7,h8,h9,h10,h11⟩,hf⟩:=h
 exact ⟨⟨set_far z0c <| set_far z0c <| set_far z0c <| set_far z0c <| set_far z0c <| set_far z0c <| set_far z0c <| set_far z0c <| set_far z0c <| set_far z0c <| h0,set_far z0c <| set_far z0c <| set_far z0c <| set_far z0c <| set_far z0c <| set_far z0c <| set_far z0c <| set_far z0c <| set_far z0c <| set_far z0c <| h1,set_far z0c <| set_far z0c <| set_far z0c <| set_far z0c <| set_far z0c <| set_far z0c <| set_far z0c <| set_far z0c <| set_far z0c <| World.cell?_setCell_same _ _ _ (show _=some a2 from h2),set_far z0c <| set_far z0c <| set_far z0c <| set_far z0c <| set_far z0c <| set_far z0c <| set_far z0c <| set_far z0c <| World.cell?_setCell_same _ _ _ (show _=some a3 from set_far z0c <| h3),set_far z0c <| set_far z0c <| set_far z0c <| set_far z0c <| set_far z0c <| set_far z0c <| set_far z0c <| World.cell?_setCell_same _ _ _ (show _=some a4 from set_far z0c <| set_far z0c <| h4),set_far z0c <| set_far z0c <| set_far z0c <| set_far z0c <| set_far z0c <| set_far z0c <| World.cell?_setCell_same _ _ _ (show _=some a5 from set_far z0c <| set_far z0c <| set_far z0c <| h5),set_far z0c <| set_far z0c <| set_far z0c <| set_far z0c <| set_far z0c <| World.cell?_setCell_same _ _ _ (show _=some a6 from set_far z0c <| set_far z0c <| set_far z0c <| set_far z0c <| h6),set_far z0c <| set_far z0c <| set_far z0c <| set_far z0c <| World.cell?_setCell_same _ _ _ (show _=some a7 from set_far z0c <| set_far z0c <| set_far z0c <| set_far z0c <| set_far z0c <| h7),set_far z0c <| set_far z0c <| set_far z0c <| World.cell?_setCell_same _ _ _ (show _=some a8 from set_far z0c <| set_far z0c <| set_far z0c <| set_far z0c <| set_far z0c <| set_far z0c <| h8),set_far z0c <| set_far z0c <| World.cell?_setCell_same _ _ _ (show _=some a9 from set_far z0c <| set_far z0c <| set_far z0c <| set_far z0c <| set_far z0c <| set_far z0c <| set_far z0c <| h9),set_far z0c <| World.cell?_setCell_same _ _ _ (show _=some b0 from set_far z0c <| set_far z0c <| set_far z0c <| set_far z0c <| set_far z0c <| set_far z0c <| set_far z0c <| set_far z0c <| h10),World.cell?_setCell_same _ _ _ (show _=some b1 from set_far z0c <| set_far z0c <| set_far z0c <| set_far z0c <| set_far z0c <| set_far z0c <| set_far z0c <| set_far z0c <| set_far z0c <| h11)⟩,fun j=>by simp only [World.frozen?_setCell];exact hf j⟩
theorem TwF.set5 {w:World} {B:Nat} {a0 a1 a2 a3 a4 a5 a6 a7 a8 a9 b0 b1:Value} (h:TwF w B a0 a1 a2 a3 a4 a5 a6 a7 a8 a9 b0 b1) (v7 v8 v9 v10 v11:Value):TwF (((((w.setCell ⟨B,7,none⟩ v7).setCell ⟨B,8,none⟩ v8).setCell ⟨B,9,none⟩ v9).setCell ⟨B,10,none⟩ v10).setCell ⟨B,11,none⟩ v11) B a0 a1 a2 a3 a4 a5 a6 v7 v8 v9 v10 v11:=by
 obtain ⟨⟨h0,h1,h2,h3,h4,h5,h6,h7,h8,h9,h10,h11⟩,hf⟩:=h
 exact ⟨⟨set_far z0c <| set_far z0c <| set_far z0c <| set_far z0c <| set_far z0c <| h0,set_far z0c <| set_far z0c <| set_far z0c <| set_far z0c <| set_far z0c <| h1,set_far z0c <| set_far z0c <| set_far z0c <| set_far z0c <| set_far z0c <| h2,set_far z0c <| set_far z0c <| set_far z0c <| set_far z0c <| set_far z0c <| h3,set_far z0c <| set_far z0c <| set_far z0c <| set_far z0c <| set_far z0c <| h4,set_far z0c <| set_far z0c <| set_far z0c <| set_far z0c <| set_far z0c <| h5,set_far z0c <| set_far z0c <| set_far z0c <| set_far z0c <| set_far z0c <| h6,set_far z0c <| set_far z0c <| set_far z0c <| set_far z0c <| World.cell?_setCell_same _ _ _ (show _=some a7 from h7),set_far z0c <| set_far z0c <| set_far z0c <| World.cell?_setCell_same _ _ _ (show _=some a8 from set_far z0c <| h8),set_far z0c <| set_far z0c <| World.cell?_setCell_same _ _ _ (show _=some a9 from set_far z0c <| set_far z0c <| h9),set_far z0c <| World.cell?_setCell_same _ _ _ (show _=some b0 from set_far z0c <| set_far z0c <| set_far z0c <| h10),World.cell?_setCell_same _ _ _ (show _=some b1 from set_far z0c <| set_far z0c <| set_far z0c <| set_far z0c <| h11)⟩,fun j=>by simp only [World.frozen?_setCell];exact hf j⟩
theorem TwF.far10 {w:World} {B Z:Nat} {a0 a1 a2 a3 a4 a5 a6 a7 a8 a9 b0 b1:Value} (h:TwF w Z a0 a1 a2 a3 a4 a5 a6 a7 a8 a9 b0 b1) (hne:B≠Z) (v2 v3 v4 v5 v6 v7 v8 v9 v10 v11:Value):TwF ((((((((((w.setCell ⟨B,2,none⟩ v2).setCell ⟨B,3,none⟩ v3).setCell ⟨B,4,none⟩ v4).setCell ⟨B,5,none⟩ v5).setCell ⟨B,6,none⟩ v6).setCell ⟨B,7,none⟩ v7).setCell ⟨B,8,none⟩ v8).setCell ⟨B,9,none⟩ v9).setCell ⟨B,10,none⟩ v10).setCell ⟨B,11,none⟩ v11) Z a0 a1 a2 a3 a4 a5 a6 a7 a8 a9 b0 b1:=by
 obtain ⟨⟨h0,h1,h2,h3,h4,h5,h6,h7,h8,h9,h10,h11⟩,hf⟩:=h
 have e:∀ {w:World} {i j:Nat} {v x:Value},w.cell? ⟨Z,j,none⟩=some x→(w.setCell ⟨B,i,none⟩ v).cell? ⟨Z,j,none⟩=some x:=fun hc=>set_far (fun e=>hne (congrArg Addr.block e)) hc
 exact ⟨⟨e <| e <| e <| e <| e <| e <| e <| e <| e <| e <| h0,e <| e <| e <| e <| e <| e <| e <| e <| e <| e <| h1,e <| e <| e <| e <| e <| e <| e <| e <| e <| e <| h2,e <| e <| e <| e <| e <| e <| e <| e <| e <| e <| h3,e <| e <| e <| e <| e <| e <| e <| e <| e <| e <| h4,e <| e <| e <| e <| e <| e <| e <| e <| e <| e <| h5,e <| e <| e <| e <| e <| e <| e <| e <| e <| e <| h6,e <| e <| e <| e <| e <| e <| e <| e <| e <| e <| h7,e <| e <| e <| e <| e <| e <| e <| e <| e <| e <| h8,e <| e <| e <| e <| e <| e <| e <| e <| e <| e <| h9,e <| e <| e <| e <| e <| e <| e <| e <| e <| e <| h10,e <| e <| e <| e <| e <| e <| e <| e <| e <| e <| h11⟩,fun j=>by simp only [World.frozen?_setCell];exact hf j⟩
theorem TwF.far5 {w:World} {B Z:Nat} {a0 a1 a2 a3 a4 a5 a6 a7 a8 a9 b0 b1:Value} (h:TwF w Z a0 a1 a2 a3 a4 a5 a6 a7 a8 a9 b0 b1) (hne:B≠Z) (v7 v8 v9 v10 v11:Value):TwF (((((w.setCell ⟨B,7,none⟩ v7).setCell ⟨B,8,none⟩ v8).setCell ⟨B,9,none⟩ v9).setCell ⟨B,10,none⟩ v10).setCell ⟨B,11,none⟩ v11) Z a0 a1 a2 a3 a4 a5 a6 a7 a8 a9 b0 b1:=by
 obtain ⟨⟨h0,h1,h2,h3,h4,h5,h6,h7,h8,h9,h10,h11⟩,hf⟩:=h
 have e:∀ {w:World} {i j:Nat} {v x:Value},w.cell? ⟨Z,j,none⟩=some x→(w.setCell ⟨B,i,none⟩ v).cell? ⟨Z,j,none⟩=some x:=fun hc=>set_far (fun e=>hne (congrArg Addr.block e)) hc
 exact ⟨⟨e <| e <| e <| e <| e <| h0,e <| e <| e <| e <| e <| h1,e <| e <| e <| e <| e <| h2,e <| e <| e <| e <| e <| h3,e <| e <| e <| e <| e <| h4,e <| e <| e <| e <| e <| h5,e <| e <| e <| e <| e <| h6,e <| e <| e <| e <| e <| h7,e <| e <| e <| e <| e <| h8,e <| e <| e <| e <| e <| h9,e <| e <| e <| e <| e <| h10,e <| e <| e <| e <| e <| h11⟩,fun j=>by simp only [World.frozen?_setCell];exact hf j⟩
structure SBx12 (w:World) (B:Nat) (ln:Bool) (lv:Nat) (un:Bool) (uv:Nat):Prop where
 all:w.cell? ⟨B,2,none⟩=some (.bool ln)∧w.cell? ⟨B,3,none⟩=some (.int .u64 (lm lv 0:Nat))∧w.cell? ⟨B,4,none⟩=some (.int .u64 (lm lv 1:Nat))∧w.cell? ⟨B,5,none⟩=some (.int .u64 (lm lv 2:Nat))∧w.cell? ⟨B,6,none⟩=some (.int .u64 (lm lv 3:Nat)) ∧
  w.cell? ⟨B,7,none⟩=some (.bool un)∧w.cell? ⟨B,8,none⟩=some (.int .u64 (lm uv 0:Nat))∧w.cell? ⟨B,9,none⟩=some (.int .u64 (lm uv 1:Nat))∧w.cell? ⟨B,10,none⟩=some (.int .u64 (lm uv 2:Nat))∧w.cell? ⟨B,11,none⟩=some (.int .u64 (lm uv 3:Nat))
theorem SBx12.below {w w1:World} {B lv uv:Nat} {ln un:Bool} (h:SBx12 w B ln lv un uv) (hb:Below w.heap.size w w1):SBx12 w1 B ln lv un uv:=by
 obtain ⟨h0,h1,h2,h3,h4,h5,h6,h7,h8,h9⟩:=h.all
 exact ⟨keep_cell hb h0,keep_cell hb h1,keep_cell hb h2,keep_cell hb h3,keep_cell hb h4,keep_cell hb h5,keep_cell hb h6,keep_cell hb h7,keep_cell hb h8,keep_cell hb h9⟩
theorem Bounds_int32 (ln un:Bool) (lv uv:Nat) (w:World) (hl:ln=sg (-2147483648)∧lv=ab (-2147483648)) (hu:un=sg (2147483647)∧uv=ab (2147483647)) :
  Calls Tryd.prog 80 #[.string ⟨#[105,110,116,51,50]⟩] w fun e w'=>e=.returned (.tuple #[.agg #[.bool true,.bool true,.bool ln,.int .u64 (lm lv 0:Nat),.int .u64 (lm lv 1:Nat),.int .u64 (lm lv 2:Nat),.int .u64 (lm lv 3:Nat),.bool un,.int .u64 (lm uv 0:Nat),.int .u64 (lm uv 1:Nat),.int .u64 (lm uv 2:Nat),.int .u64 (lm uv 3:Nat)],.bool true])∧Below w.heap.size w w':=by
 have CL:=Lib.hid fun wx=>OfI_any (-2147483648) z0g z0g wx
 rw [← hl.1,← hl.2] at CL
 have CH:=Lib.hid fun wx=>OfI_any (2147483647) z0g z0g wx
 exact z15zk2
theorem Bounds_sint32 (ln un:Bool) (lv uv:Nat) (w:World) (hl:ln=sg (-2147483648)∧lv=ab (-2147483648)) (hu:un=sg (2147483647)∧uv=ab (2147483647)) :
  Calls Tryd.prog 80 #[.string ⟨#[115,105,110,116,51,50]⟩] w fun e w'=>e=.returned (.tuple #[.agg #[.bool true,.bool true,.bool ln,.int .u64 (lm lv 0:Nat),.int .u64 (lm lv 1:Nat),.int .u64 (lm lv 2:Nat),.int .u64 (lm lv 3:Nat),.bool un,.int .u64 (lm uv 0:Nat),.int .u64 (lm uv 1:Nat),.int .u64 (lm uv 2:Nat),.int .u64 (lm uv 3:Nat)],.bool true])∧Below w.heap.size w w':=by
 have CL:=Lib.hid fun wx=>OfI_any (-2147483648) z0g z0g wx
 rw [← hl.1,← hl.2] at CL
 have CH:=Lib.hid fun wx=>OfI_any (2147483647) z0g z0g wx
 exact z15zk2
theorem Bounds_int64 (ln un:Bool) (lv uv:Nat) (w:World) (hl:ln=sg (-9223372036854775808)∧lv=ab (-9223372036854775808)) (hu:un=sg (9223372036854775807)∧uv=ab (9223372036854775807)) :
  Calls Tryd.prog 80 #[.string ⟨#[105,110,116,54,52]⟩] w fun e w'=>e=.returned (.tuple #[.agg #[.bool true,.bool true,.bool ln,.int .u64 (lm lv 0:Nat),.int .u64 (lm lv 1:Nat),.int .u64 (lm lv 2:Nat),.int .u64 (lm lv 3:Nat),.bool un,.int .u64 (lm uv 0:Nat),.int .u64 (lm uv 1:Nat),.int .u64 (lm uv 2:Nat),.int .u64 (lm uv 3:Nat)],.bool true])∧Below w.heap.size w w':=by
 have CL:=Lib.hid fun wx=>OfI_any (-9223372036854775808) z0g z0g wx
 rw [← hl.1,← hl.2] at CL
 have CH:=Lib.hid fun wx=>OfI_any (9223372036854775807) z0g z0g wx
 exact z15zk2
theorem Bounds_sint64 (ln un:Bool) (lv uv:Nat) (w:World) (hl:ln=sg (-9223372036854775808)∧lv=ab (-9223372036854775808)) (hu:un=sg (9223372036854775807)∧uv=ab (9223372036854775807)) :
  Calls Tryd.prog 80 #[.string ⟨#[115,105,110,116,54,52]⟩] w fun e w'=>e=.returned (.tuple #[.agg #[.bool true,.bool true,.bool ln,.int .u64 (lm lv 0:Nat),.int .u64 (lm lv 1:Nat),.int .u64 (lm lv 2:Nat),.int .u64 (lm lv 3:Nat),.bool un,.int .u64 (lm uv 0:Nat),.int .u64 (lm uv 1:Nat),.int .u64 (lm uv 2:Nat),.int .u64 (lm uv 3:Nat)],.bool true])∧Below w.heap.size w w':=by
 have CL:=Lib.hid fun wx=>OfI_any (-9223372036854775808) z0g z0g wx
 rw [← hl.1,← hl.2] at CL
 have CH:=Lib.hid fun wx=>OfI_any (9223372036854775807) z0g z0g wx
 exact z15zk2
theorem Bounds_uint32 (ln un:Bool) (lv uv:Nat) (w:World) (hl:ln=sg (0)∧lv=ab (0)) (hu:un=sg (4294967295)∧uv=ab (4294967295)) :
  Calls Tryd.prog 80 #[.string ⟨#[117,105,110,116,51,50]⟩] w fun e w'=>e=.returned (.tuple #[.agg #[.bool true,.bool true,.bool ln,.int .u64 (lm lv 0:Nat),.int .u64 (lm lv 1:Nat),.int .u64 (lm lv 2:Nat),.int .u64 (lm lv 3:Nat),.bool un,.int .u64 (lm uv 0:Nat),.int .u64 (lm uv 1:Nat),.int .u64 (lm uv 2:Nat),.int .u64 (lm uv 3:Nat)],.bool true])∧Below w.heap.size w w':=by
 have CH:=Lib.hid fun wx=>OfI_any (4294967295) z0g z0g wx
 rw [← hu.1,← hu.2] at CH
 have hz0:lm lv 0=0∧lm lv 1=0∧lm lv 2=0∧lm lv 3=0∧ln=false:=by rw [hl.1,hl.2];exact ⟨rfl,rfl,rfl,rfl,rfl⟩
 obtain ⟨z0,z1,z2,z3,z4⟩:=hz0
 rw [z0,z1,z2,z3,z4]
 clear z0 z1 z2 z3 z4 hl hu
 go_enter Tryd.func80,Tryd.ntmps80
 go_upto_region 2 with fail
 have Z0:=Lib.hid ((twf_new w 117 (.bool false) (.bool false) (.bool false) (.int .u64 0) (.int .u64 0) (.int .u64 0) (.int .u64 0) (.bool false) (.int .u64 0) (.int .u64 0) (.int .u64 0) (.int .u64 0)).below (below_alloc (Below.refl _ _) (.cells #[.bool true,.bool true,.bool false,.int .u64 0,.int .u64 0,.int .u64 0,.int .u64 0,.bool false,.int .u64 0,.int .u64 0,.int .u64 0,.int .u64 0] 117)))
 have S0:TwF ((w.alloc (.cells #[.bool false,.bool false,.bool false,.int .u64 0,.int .u64 0,.int .u64 0,.int .u64 0,.bool false,.int .u64 0,.int .u64 0,.int .u64 0,.int .u64 0] 117)).alloc (.cells #[.bool true,.bool true,.bool false,.int .u64 0,.int .u64 0,.int .u64 0,.int .u64 0,.bool false,.int .u64 0,.int .u64 0,.int .u64 0,.int .u64 0] 117)) (w.heap.size+1) (.bool true) (.bool true) (.bool false) (.int .u64 0) (.int .u64 0) (.int .u64 0) (.int .u64 0) (.bool false) (.int .u64 0) (.int .u64 0) (.int .u64 0) (.int .u64 0):=by
  exact z15zk3
 have S0:=Lib.hid S0
 have hW0:=below_alloc (below_alloc (Below.refl w.heap.size w) (.cells #[.bool false,.bool false,.bool false,.int .u64 0,.int .u64 0,.int .u64 0,.int .u64 0,.bool false,.int .u64 0,.int .u64 0,.int .u64 0,.int .u64 0] 117)) (.cells #[.bool true,.bool true,.bool false,.int .u64 0,.int .u64 0,.int .u64 0,.int .u64 0,.bool false,.int .u64 0,.int .u64 0,.int .u64 0,.int .u64 0] 117)
 generalize ((w.alloc (.cells #[.bool false,.bool false,.bool false,.int .u64 0,.int .u64 0,.int .u64 0,.int .u64 0,.bool false,.int .u64 0,.int .u64 0,.int .u64 0,.int .u64 0] 117)).alloc (.cells #[.bool true,.bool true,.bool false,.int .u64 0,.int .u64 0,.int .u64 0,.int .u64 0,.bool false,.int .u64 0,.int .u64 0,.int .u64 0,.int .u64 0] 117))=w0 at *
 obtain ⟨Bs,hBs⟩:∃ B,B=w.heap.size+1:=⟨_,rfl⟩
 rw [← hBs] at S0 ⊢
 obtain ⟨Bz,hBz⟩:∃ B,B=w.heap.size:=⟨_,rfl⟩
 rw [← hBz] at Z0 ⊢
 have HZ:=Lib.hid (show w.heap.size≤Bz∧w.heap.size≤Bs∧Bz≠Bs∧Bs≠Bz by omega)
 clear hBs hBz
 go_upto_region 14 with (first|(go_at_call 87;with_reducible refine (CH.out _).mono ?_;rintro e w2 ⟨rfl,hb2⟩;have Z2:=Lib.hid (Z0.out.below hb2);have S2:=Lib.hid (S0.out.below hb2);obtain ⟨_,_,_,_,_,_,_,_,_,_,_,_⟩:=S2.out.c;have hf_S2:=S2.out.f))
 exact z15zk4
theorem Bounds_uint64 (ln un:Bool) (lv uv:Nat) (w:World) (hl:ln=sg (0)∧lv=ab (0)) (hu:un=sg (18446744073709551615)∧uv=ab (18446744073709551615)) :
  Calls Tryd.prog 80 #[.string ⟨#[117,105,110,116,54,52]⟩] w fun e w'=>e=.returned (.tuple #[.agg #[.bool true,.bool true,.bool ln,.int .u64 (lm lv 0:Nat),.int .u64 (lm lv 1:Nat),.int .u64 (lm lv 2:Nat),.int .u64 (lm lv 3:Nat),.bool un,.int .u64 (lm uv 0:Nat),.int .u64 (lm uv 1:Nat),.int .u64 (lm uv 2:Nat),.int .u64 (lm uv 3:Nat)],.bool true])∧Below w.heap.size w w':=by
 have CH:Hid (∀ wx:World,Calls Tryd.prog 88 #[.int .u64 18446744073709551615] wx fun e w'=>e=.returned (.agg #[.bool (un ),.int .u64 (lm ( uv) 0:Nat),.int .u64 (lm ( uv) 1:Nat),.int .u64 (lm ( uv) 2:Nat),.int .u64 (lm ( uv) 3:Nat)])∧Below wx.heap.size wx w'):=Lib.hid fun wx=>by
  have h:=OfU_any 18446744073709551615 z0g wx
  rw [hu.1,hu.2]
  exact h
 have hz0:lm lv 0=0∧lm lv 1=0∧lm lv 2=0∧lm lv 3=0∧ln=false:=by rw [hl.1,hl.2];exact ⟨rfl,rfl,rfl,rfl,rfl⟩
 obtain ⟨z0,z1,z2,z3,z4⟩:=hz0
 rw [z0,z1,z2,z3,z4]
 clear z0 z1 z2 z3 z4 hl hu
 go_enter Tryd.func80,Tryd.ntmps80
 go_upto_region 2 with fail
 have Z0:=Lib.hid ((twf_new w 117 (.bool false) (.bool false) (.bool false) (.int .u64 0) (.int .u64 0) (.int .u64 0) (.int .u64 0) (.bool false) (.int .u64 0) (.int .u64 0) (.int .u64 0) (.int .u64 0)).below (below_alloc (Below.refl _ _) (.cells #[.bool true,.bool true,.bool false,.int .u64 0,.int .u64 0,.int .u64 0,.int .u64 0,.bool false,.int .u64 0,.int .u64 0,.int .u64 0,.int .u64 0] 117)))
 have S0:TwF ((w.alloc (.cells #[.bool false,.bool false,.bool false,.int .u64 0,.int .u64 0,.int .u64 0,.int .u64 0,.bool false,.int .u64 0,.int .u64 0,.int .u64 0,.int .u64 0] 117)).alloc (.cells #[.bool true,.bool true,.bool false,.int .u64 0,.int .u64 0,.int .u64 0,.int .u64 0,.bool false,.int .u64 0,.int .u64 0,.int .u64 0,.int .u64 0] 117)) (w.heap.size+1) (.bool true) (.bool true) (.bool false) (.int .u64 0) (.int .u64 0) (.int .u64 0) (.int .u64 0) (.bool false) (.int .u64 0) (.int .u64 0) (.int .u64 0) (.int .u64 0):=by
  exact z15zk3
 have S0:=Lib.hid S0
 have hW0:=below_alloc (below_alloc (Below.refl w.heap.size w) (.cells #[.bool false,.bool false,.bool false,.int .u64 0,.int .u64 0,.int .u64 0,.int .u64 0,.bool false,.int .u64 0,.int .u64 0,.int .u64 0,.int .u64 0] 117)) (.cells #[.bool true,.bool true,.bool false,.int .u64 0,.int .u64 0,.int .u64 0,.int .u64 0,.bool false,.int .u64 0,.int .u64 0,.int .u64 0,.int .u64 0] 117)
 generalize ((w.alloc (.cells #[.bool false,.bool false,.bool false,.int .u64 0,.int .u64 0,.int .u64 0,.int .u64 0,.bool false,.int .u64 0,.int .u64 0,.int .u64 0,.int .u64 0] 117)).alloc (.cells #[.bool true,.bool true,.bool false,.int .u64 0,.int .u64 0,.int .u64 0,.int .u64 0,.bool false,.int .u64 0,.int .u64 0,.int .u64 0,.int .u64 0] 117))=w0 at *
 obtain ⟨Bs,hBs⟩:∃ B,B=w.heap.size+1:=⟨_,rfl⟩
 rw [← hBs] at S0 ⊢
 obtain ⟨Bz,hBz⟩:∃ B,B=w.heap.size:=⟨_,rfl⟩
 rw [← hBz] at Z0 ⊢
 have HZ:=Lib.hid (show w.heap.size≤Bz∧w.heap.size≤Bs∧Bz≠Bs∧Bs≠Bz by omega)
 clear hBs hBz
 go_upto_region 14 with (first|(go_at_call 88;with_reducible refine (CH.out _).mono ?_;rintro e w2 ⟨rfl,hb2⟩;have Z2:=Lib.hid (Z0.out.below hb2);have S2:=Lib.hid (S0.out.below hb2);obtain ⟨_,_,_,_,_,_,_,_,_,_,_,_⟩:=S2.out.c;have hf_S2:=S2.out.f))
 exact z15zk4
theorem PSc_bool (kind:Int) (neg:Bool) (V bits:Nat) (text:ByteArray) (aL:Option Addr) (nL cL:Nat) (aK:Option Addr) (nK cK:Nat) (w:World) :
  Calls Tryd.prog 74 #[.string ⟨#[98,111,111,108]⟩,.agg #[.int .i64 kind,.bool neg,.int .u64 (lm V 0:Nat),.int .u64 (lm V 1:Nat),.int .u64 (lm V 2:Nat),.int .u64 (lm V 3:Nat),.int .u64 (bits:Nat),.string text,.slice aL nL cL,.slice aK nK cK]] w fun e w'=>e=.returned (.bool (decide (kind=2)))∧Below w.heap.size w w':=by
 obtain ⟨R,hR⟩:∃ R,R=decide (kind=2):=⟨_,rfl⟩
 rw [← hR]
 go_enter Tryd.func74,Tryd.ntmps74
 by_cases c:kind=2
 ·have c1:(kind == 2)=true:=beq_iff_eq.2 c
  obtain rfl:R=true:=by rw [hR,decide_eq_true c]
  exact z15zk5
 ·have c1:(kind == 2)=false:=beq_false_of_ne c
  obtain rfl:R=false:=by rw [hR,decide_eq_false c]
  clear c hR
  exact z15zk6
theorem PSc_string (kind:Int) (neg:Bool) (V bits:Nat) (text:ByteArray) (aL:Option Addr) (nL cL:Nat) (aK:Option Addr) (nK cK:Nat) (w:World) :
  Calls Tryd.prog 74 #[.string ⟨#[115,116,114,105,110,103]⟩,.agg #[.int .i64 kind,.bool neg,.int .u64 (lm V 0:Nat),.int .u64 (lm V 1:Nat),.int .u64 (lm V 2:Nat),.int .u64 (lm V 3:Nat),.int .u64 (bits:Nat),.string text,.slice aL nL cL,.slice aK nK cK]] w fun e w'=>e=.returned (.bool (decide (kind=5)))∧Below w.heap.size w w':=by
 obtain ⟨R,hR⟩:∃ R,R=decide (kind=5):=⟨_,rfl⟩
 rw [← hR]
 go_enter Tryd.func74,Tryd.ntmps74
 by_cases c:kind=5
 ·have c1:(kind == 5)=true:=beq_iff_eq.2 c
  obtain rfl:R=true:=by rw [hR,decide_eq_true c]
  exact z15zk5
 ·have c1:(kind == 5)=false:=beq_false_of_ne c
  obtain rfl:R=false:=by rw [hR,decide_eq_false c]
  clear c hR
  exact z15zk6
theorem PSc_bytes (kind:Int) (neg:Bool) (V bits:Nat) (text:ByteArray) (aL:Option Addr) (nL cL:Nat) (aK:Option Addr) (nK cK:Nat) (w:World) :
  Calls Tryd.prog 74 #[.string ⟨#[98,121,116,101,115]⟩,.agg #[.int .i64 kind,.bool neg,.int .u64 (lm V 0:Nat),.int .u64 (lm V 1:Nat),.int .u64 (lm V 2:Nat),.int .u64 (lm V 3:Nat),.int .u64 (bits:Nat),.string text,.slice aL nL cL,.slice aK nK cK]] w fun e w'=>e=.returned (.bool (decide (kind=6)))∧Below w.heap.size w w':=by
 obtain ⟨R,hR⟩:∃ R,R=decide (kind=6):=⟨_,rfl⟩
 rw [← hR]
 go_enter Tryd.func74,Tryd.ntmps74
 by_cases c:kind=6
 ·have c1:(kind == 6)=true:=beq_iff_eq.2 c
  obtain rfl:R=true:=by rw [hR,decide_eq_true c]
  exact z15zk5
 ·have c1:(kind == 6)=false:=beq_false_of_ne c
  obtain rfl:R=false:=by rw [hR,decide_eq_false c]
  clear c hR
  exact z15zk6
theorem PSc_double (kind:Int) (neg:Bool) (V bits:Nat) (text:ByteArray) (aL:Option Addr) (nL cL:Nat) (aK:Option Addr) (nK cK:Nat) (hV:V < 2 ^ 256) (w:World) (hT:Tab w) :
  Calls Tryd.prog 74 #[.string ⟨#[100,111,117,98,108,101]⟩,.agg #[.int .i64 kind,.bool neg,.int .u64 (lm V 0:Nat),.int .u64 (lm V 1:Nat),.int .u64 (lm V 2:Nat),.int .u64 (lm V 3:Nat),.int .u64 (bits:Nat),.string text,.slice aL nL cL,.slice aK nK cK]] w fun e w'=>e=.returned (.bool (decide (kind=4) || (decide (kind=3) && exactI neg V)))∧Below w.heap.size w w':=by
 have HT:=Lib.hid hT
 obtain ⟨E,hE⟩:∃ E,exactI neg V=E:=⟨_,rfl⟩
 have C1:=Lib.hid fun wx (hx:Below w.heap.size w wx)=>Exact_any neg V hV wx (HT.out.below hx)
 rw [hE] at C1 ⊢
 clear hT hE
 obtain ⟨R,hR⟩:∃ R,R=(decide (kind=4) || (decide (kind=3) && E)):=⟨_,rfl⟩
 rw [← hR]
 go_enter Tryd.func74,Tryd.ntmps74
 by_cases c:kind=4
 ·have c1:(kind == 4)=true:=beq_iff_eq.2 c
  obtain rfl:R=true:=by rw [hR,decide_eq_true c];rfl
  exact z15zk5
 ·have c1:(kind == 4)=false:=beq_false_of_ne c
  by_cases d:kind=3
  ·have d1:(kind == 3)=true:=beq_iff_eq.2 d
   obtain rfl:R=E:=by rw [hR,decide_eq_false c,decide_eq_true d];rfl
   clear c d hR
   repeat any_goals (first|(go_at_call 79;with_reducible refine (C1.out _ zb2).mono ?_;rintro e w1 ⟨rfl,hb1⟩)|go_skip|go_guarded|go_step|go_upon|(dsimp only []))
   exact bodyPost_ret (v:=.bool R) z0e rfl ⟨rfl,zb2⟩
  ·have d1:(kind == 3)=false:=beq_false_of_ne d
   obtain rfl:R=false:=by rw [hR,decide_eq_false c,decide_eq_false d];rfl
   clear c d hR
   exact z15zk6
theorem PSc_int32 (kind:Int) (neg:Bool) (V bits:Nat) (text:ByteArray) (aL:Option Addr) (nL cL:Nat) (aK:Option Addr) (nK cK:Nat) (hV:V < 2 ^ 256) (hm:kind=3→mayI neg V=true) (w:World) :
  Calls Tryd.prog 74 #[.string ⟨#[105,110,116,51,50]⟩,.agg #[.int .i64 kind,.bool neg,.int .u64 (lm V 0:Nat),.int .u64 (lm V 1:Nat),.int .u64 (lm V 2:Nat),.int .u64 (lm V 3:Nat),.int .u64 (bits:Nat),.string text,.slice aL nL cL,.slice aK nK cK]] w fun e w'=>e=.returned (.bool (rngT kind neg V (-2147483648) 2147483647))∧Below w.heap.size w w':=by
 obtain ⟨ln,hln⟩:∃ n,n=sg (-2147483648):=⟨_,rfl⟩
 obtain ⟨lv,hlv⟩:∃ n,n=ab (-2147483648):=⟨_,rfl⟩
 obtain ⟨un,hun⟩:∃ n,n=sg (2147483647):=⟨_,rfl⟩
 obtain ⟨uv,huv⟩:∃ n,n=ab (2147483647):=⟨_,rfl⟩
 have CB:=Lib.hid fun wx=>Bounds_int32 ln un lv uv wx ⟨hln,hlv⟩ ⟨hun,huv⟩
 obtain ⟨z1,hz1⟩:∃ z,cmpI ln lv neg V=z:=⟨_,rfl⟩
 obtain ⟨z2,hz2⟩:∃ z,cmpI neg V un uv=z:=⟨_,rfl⟩
 have C1:=Lib.hid fun wx=>Cmp_any ln lv (by rw [hlv];decide) neg V hV wx
 have C2:=Lib.hid fun wx=>Cmp_any neg V hV un uv (by rw [huv];decide) wx
 rw [hz1] at C1
 rw [hz2] at C2
 have J:=Lib.hid (show kind=3→(z1≤0↔(-2147483648)≤zI neg V)∧(z2≤0↔zI neg V≤2147483647) from fun hk=>by
  have hmm:=hm hk
  have e:∀ z:Int,mayI (sg z) (ab z)=true:=mayI_sgz
  constructor
  ·rw [← hz1,hln,hlv]
   unfold cmpI
   rw [e,hmm,zI_sgz]
   exact cmpZ_nonpos
  ·rw [← hz2,hun,huv]
   unfold cmpI
   rw [e,hmm,zI_sgz]
   exact cmpZ_nonpos)
 clear hln hlv hun huv hz1 hz2 hm
 obtain ⟨R,hR⟩:∃ R,R=rngT kind neg V (-2147483648) 2147483647:=⟨_,rfl⟩
 exact z15zk1
theorem PSc_sint32 (kind:Int) (neg:Bool) (V bits:Nat) (text:ByteArray) (aL:Option Addr) (nL cL:Nat) (aK:Option Addr) (nK cK:Nat) (hV:V < 2 ^ 256) (hm:kind=3→mayI neg V=true) (w:World) :
  Calls Tryd.prog 74 #[.string ⟨#[115,105,110,116,51,50]⟩,.agg #[.int .i64 kind,.bool neg,.int .u64 (lm V 0:Nat),.int .u64 (lm V 1:Nat),.int .u64 (lm V 2:Nat),.int .u64 (lm V 3:Nat),.int .u64 (bits:Nat),.string text,.slice aL nL cL,.slice aK nK cK]] w fun e w'=>e=.returned (.bool (rngT kind neg V (-2147483648) 2147483647))∧Below w.heap.size w w':=by
 obtain ⟨ln,hln⟩:∃ n,n=sg (-2147483648):=⟨_,rfl⟩
 obtain ⟨lv,hlv⟩:∃ n,n=ab (-2147483648):=⟨_,rfl⟩
 obtain ⟨un,hun⟩:∃ n,n=sg (2147483647):=⟨_,rfl⟩
 obtain ⟨uv,huv⟩:∃ n,n=ab (2147483647):=⟨_,rfl⟩
 have CB:=Lib.hid fun wx=>Bounds_sint32 ln un lv uv wx ⟨hln,hlv⟩ ⟨hun,huv⟩
 obtain ⟨z1,hz1⟩:∃ z,cmpI ln lv neg V=z:=⟨_,rfl⟩
 obtain ⟨z2,hz2⟩:∃ z,cmpI neg V un uv=z:=⟨_,rfl⟩
 have C1:=Lib.hid fun wx=>Cmp_any ln lv (by rw [hlv];decide) neg V hV wx
 have C2:=Lib.hid fun wx=>Cmp_any neg V hV un uv (by rw [huv];decide) wx
 rw [hz1] at C1
 rw [hz2] at C2
 have J:=Lib.hid (show kind=3→(z1≤0↔(-2147483648)≤zI neg V)∧(z2≤0↔zI neg V≤2147483647) from fun hk=>by
  have hmm:=hm hk
  have e:∀ z:Int,mayI (sg z) (ab z)=true:=mayI_sgz
  constructor
  ·rw [← hz1,hln,hlv]
   unfold cmpI
   rw [e,hmm,zI_sgz]
   exact cmpZ_nonpos
  ·rw [← hz2,hun,huv]
   unfold cmpI
   rw [e,hmm,zI_sgz]
   exact cmpZ_nonpos)
 clear hln hlv hun huv hz1 hz2 hm
 obtain ⟨R,hR⟩:∃ R,R=rngT kind neg V (-2147483648) 2147483647:=⟨_,rfl⟩
 exact z15zk1
theorem PSc_int64 (kind:Int) (neg:Bool) (V bits:Nat) (text:ByteArray) (aL:Option Addr) (nL cL:Nat) (aK:Option Addr) (nK cK:Nat) (hV:V < 2 ^ 256) (hm:kind=3→mayI neg V=true) (w:World) :
  Calls Tryd.prog 74 #[.string ⟨#[105,110,116,54,52]⟩,.agg #[.int .i64 kind,.bool neg,.int .u64 (lm V 0:Nat),.int .u64 (lm V 1:Nat),.int .u64 (lm V 2:Nat),.int .u64 (lm V 3:Nat),.int .u64 (bits:Nat),.string text,.slice aL nL cL,.slice aK nK cK]] w fun e w'=>e=.returned (.bool (rngT kind neg V (-9223372036854775808) 9223372036854775807))∧Below w.heap.size w w':=by
 obtain ⟨ln,hln⟩:∃ n,n=sg (-9223372036854775808):=⟨_,rfl⟩
 obtain ⟨lv,hlv⟩:∃ n,n=ab (-9223372036854775808):=⟨_,rfl⟩
 obtain ⟨un,hun⟩:∃ n,n=sg (9223372036854775807):=⟨_,rfl⟩
 obtain ⟨uv,huv⟩:∃ n,n=ab (9223372036854775807):=⟨_,rfl⟩
 have CB:=Lib.hid fun wx=>Bounds_int64 ln un lv uv wx ⟨hln,hlv⟩ ⟨hun,huv⟩
 obtain ⟨z1,hz1⟩:∃ z,cmpI ln lv neg V=z:=⟨_,rfl⟩
 obtain ⟨z2,hz2⟩:∃ z,cmpI neg V un uv=z:=⟨_,rfl⟩
 have C1:=Lib.hid fun wx=>Cmp_any ln lv (by rw [hlv];decide) neg V hV wx
 have C2:=Lib.hid fun wx=>Cmp_any neg V hV un uv (by rw [huv];decide) wx
 rw [hz1] at C1
 rw [hz2] at C2
 have J:=Lib.hid (show kind=3→(z1≤0↔(-9223372036854775808)≤zI neg V)∧(z2≤0↔zI neg V≤9223372036854775807) from fun hk=>by
  have hmm:=hm hk
  have e:∀ z:Int,mayI (sg z) (ab z)=true:=mayI_sgz
  constructor
  ·rw [← hz1,hln,hlv]
   unfold cmpI
   rw [e,hmm,zI_sgz]
   exact cmpZ_nonpos
  ·rw [← hz2,hun,huv]
   unfold cmpI
   rw [e,hmm,zI_sgz]
   exact cmpZ_nonpos)
 clear hln hlv hun huv hz1 hz2 hm
 obtain ⟨R,hR⟩:∃ R,R=rngT kind neg V (-9223372036854775808) 9223372036854775807:=⟨_,rfl⟩
 exact z15zk1
theorem PSc_sint64 (kind:Int) (neg:Bool) (V bits:Nat) (text:ByteArray) (aL:Option Addr) (nL cL:Nat) (aK:Option Addr) (nK cK:Nat) (hV:V < 2 ^ 256) (hm:kind=3→mayI neg V=true) (w:World) :
  Calls Tryd.prog 74 #[.string ⟨#[115,105,110,116,54,52]⟩,.agg #[.int .i64 kind,.bool neg,.int .u64 (lm V 0:Nat),.int .u64 (lm V 1:Nat),.int .u64 (lm V 2:Nat),.int .u64 (lm V 3:Nat),.int .u64 (bits:Nat),.string text,.slice aL nL cL,.slice aK nK cK]] w fun e w'=>e=.returned (.bool (rngT kind neg V (-9223372036854775808) 9223372036854775807))∧Below w.heap.size w w':=by
 obtain ⟨ln,hln⟩:∃ n,n=sg (-9223372036854775808):=⟨_,rfl⟩
 obtain ⟨lv,hlv⟩:∃ n,n=ab (-9223372036854775808):=⟨_,rfl⟩
 obtain ⟨un,hun⟩:∃ n,n=sg (9223372036854775807):=⟨_,rfl⟩
 obtain ⟨uv,huv⟩:∃ n,n=ab (9223372036854775807):=⟨_,rfl⟩
 have CB:=Lib.hid fun wx=>Bounds_sint64 ln un lv uv wx ⟨hln,hlv⟩ ⟨hun,huv⟩
 obtain ⟨z1,hz1⟩:∃ z,cmpI ln lv neg V=z:=⟨_,rfl⟩
 obtain ⟨z2,hz2⟩:∃ z,cmpI neg V un uv=z:=⟨_,rfl⟩
 have C1:=Lib.hid fun wx=>Cmp_any ln lv (by rw [hlv];decide) neg V hV wx
 have C2:=Lib.hid fun wx=>Cmp_any neg V hV un uv (by rw [huv];decide) wx
 rw [hz1] at C1
 rw [hz2] at C2
 have J:=Lib.hid (show kind=3→(z1≤0↔(-9223372036854775808)≤zI neg V)∧(z2≤0↔zI neg V≤9223372036854775807) from fun hk=>by
  have hmm:=hm hk
  have e:∀ z:Int,mayI (sg z) (ab z)=true:=mayI_sgz
  constructor
  ·rw [← hz1,hln,hlv]
   unfold cmpI
   rw [e,hmm,zI_sgz]
   exact cmpZ_nonpos
  ·rw [← hz2,hun,huv]
   unfold cmpI
   rw [e,hmm,zI_sgz]
   exact cmpZ_nonpos)
 clear hln hlv hun huv hz1 hz2 hm
 obtain ⟨R,hR⟩:∃ R,R=rngT kind neg V (-9223372036854775808) 9223372036854775807:=⟨_,rfl⟩
 exact z15zk1
theorem PSc_uint32 (kind:Int) (neg:Bool) (V bits:Nat) (text:ByteArray) (aL:Option Addr) (nL cL:Nat) (aK:Option Addr) (nK cK:Nat) (hV:V < 2 ^ 256) (hm:kind=3→mayI neg V=true) (w:World) :
  Calls Tryd.prog 74 #[.string ⟨#[117,105,110,116,51,50]⟩,.agg #[.int .i64 kind,.bool neg,.int .u64 (lm V 0:Nat),.int .u64 (lm V 1:Nat),.int .u64 (lm V 2:Nat),.int .u64 (lm V 3:Nat),.int .u64 (bits:Nat),.string text,.slice aL nL cL,.slice aK nK cK]] w fun e w'=>e=.returned (.bool (rngT kind neg V (0) 4294967295))∧Below w.heap.size w w':=by
 obtain ⟨ln,hln⟩:∃ n,n=sg (0):=⟨_,rfl⟩
 obtain ⟨lv,hlv⟩:∃ n,n=ab (0):=⟨_,rfl⟩
 obtain ⟨un,hun⟩:∃ n,n=sg (4294967295):=⟨_,rfl⟩
 obtain ⟨uv,huv⟩:∃ n,n=ab (4294967295):=⟨_,rfl⟩
 have CB:=Lib.hid fun wx=>Bounds_uint32 ln un lv uv wx ⟨hln,hlv⟩ ⟨hun,huv⟩
 obtain ⟨z1,hz1⟩:∃ z,cmpI ln lv neg V=z:=⟨_,rfl⟩
 obtain ⟨z2,hz2⟩:∃ z,cmpI neg V un uv=z:=⟨_,rfl⟩
 have C1:=Lib.hid fun wx=>Cmp_any ln lv (by rw [hlv];decide) neg V hV wx
 have C2:=Lib.hid fun wx=>Cmp_any neg V hV un uv (by rw [huv];decide) wx
 rw [hz1] at C1
 rw [hz2] at C2
 have J:=Lib.hid (show kind=3→(z1≤0↔(0)≤zI neg V)∧(z2≤0↔zI neg V≤4294967295) from fun hk=>by
  have hmm:=hm hk
  have e:∀ z:Int,mayI (sg z) (ab z)=true:=mayI_sgz
  constructor
  ·rw [← hz1,hln,hlv]
   unfold cmpI
   rw [e,hmm,zI_sgz]
   exact cmpZ_nonpos
  ·rw [← hz2,hun,huv]
   unfold cmpI
   rw [e,hmm,zI_sgz]
   exact cmpZ_nonpos)
 clear hln hlv hun huv hz1 hz2 hm
 obtain ⟨R,hR⟩:∃ R,R=rngT kind neg V (0) 4294967295:=⟨_,rfl⟩
 exact z15zk1
theorem PSc_uint64 (kind:Int) (neg:Bool) (V bits:Nat) (text:ByteArray) (aL:Option Addr) (nL cL:Nat) (aK:Option Addr) (nK cK:Nat) (hV:V < 2 ^ 256) (hm:kind=3→mayI neg V=true) (w:World) :
  Calls Tryd.prog 74 #[.string ⟨#[117,105,110,116,54,52]⟩,.agg #[.int .i64 kind,.bool neg,.int .u64 (lm V 0:Nat),.int .u64 (lm V 1:Nat),.int .u64 (lm V 2:Nat),.int .u64 (lm V 3:Nat),.int .u64 (bits:Nat),.string text,.slice aL nL cL,.slice aK nK cK]] w fun e w'=>e=.returned (.bool (rngT kind neg V (0) 18446744073709551615))∧Below w.heap.size w w':=by
 obtain ⟨ln,hln⟩:∃ n,n=sg (0):=⟨_,rfl⟩
 obtain ⟨lv,hlv⟩:∃ n,n=ab (0):=⟨_,rfl⟩
 obtain ⟨un,hun⟩:∃ n,n=sg (18446744073709551615):=⟨_,rfl⟩
 obtain ⟨uv,huv⟩:∃ n,n=ab (18446744073709551615):=⟨_,rfl⟩
 have CB:=Lib.hid fun wx=>Bounds_uint64 ln un lv uv wx ⟨hln,hlv⟩ ⟨hun,huv⟩
 obtain ⟨z1,hz1⟩:∃ z,cmpI ln lv neg V=z:=⟨_,rfl⟩
 obtain ⟨z2,hz2⟩:∃ z,cmpI neg V un uv=z:=⟨_,rfl⟩
 have C1:=Lib.hid fun wx=>Cmp_any ln lv (by rw [hlv];decide) neg V hV wx
 have C2:=Lib.hid fun wx=>Cmp_any neg V hV un uv (by rw [huv];decide) wx
 rw [hz1] at C1
 rw [hz2] at C2
 have J:=Lib.hid (show kind=3→(z1≤0↔(0)≤zI neg V)∧(z2≤0↔zI neg V≤18446744073709551615) from fun hk=>by
  have hmm:=hm hk
  have e:∀ z:Int,mayI (sg z) (ab z)=true:=mayI_sgz
  constructor
  ·rw [← hz1,hln,hlv]
   unfold cmpI
   rw [e,hmm,zI_sgz]
   exact cmpZ_nonpos
  ·rw [← hz2,hun,huv]
   unfold cmpI
   rw [e,hmm,zI_sgz]
   exact cmpZ_nonpos)
 clear hln hlv hun huv hz1 hz2 hm
 obtain ⟨R,hR⟩:∃ R,R=rngT kind neg V (0) 18446744073709551615:=⟨_,rfl⟩
 exact z15zk1
theorem PSc_any (s:ByteArray) (hs:scalarB s=true) (kind:Int) (neg:Bool) (V bits:Nat) (text:ByteArray) (aL:Option Addr) (nL cL:Nat) (aK:Option Addr) (nK cK:Nat) (hV:V < 2 ^ 256) (hm:kind=3→mayI neg V=true) (w:World) (hT:Tab w) :
  Calls Tryd.prog 74 #[.string s,.agg #[.int .i64 kind,.bool neg,.int .u64 (lm V 0:Nat),.int .u64 (lm V 1:Nat),.int .u64 (lm V 2:Nat),.int .u64 (lm V 3:Nat),.int .u64 (bits:Nat),.string text,.slice aL nL cL,.slice aK nK cK]] w fun e w'=>e=.returned (.bool (scT s.toList kind neg V))∧Below w.heap.size w w':=by
 obtain ⟨l,hl,he⟩:=List.any_eq_true.1 hs
 have he:=beq_iff_eq.1 he
 simp only [scalarL,List.mem_cons,List.not_mem_nil,or_false] at hl
 rcases hl with rfl|rfl|rfl|rfl|rfl|rfl|rfl|rfl|rfl|rfl
 ·obtain rfl:=mk_of he
  rw [show scT (ByteArray.mk ([100,111,117,98,108,101]:List UInt8).toArray).toList kind neg V=(decide (kind=4) || (decide (kind=3) && exactI neg V)) from by rw [tl];rfl]
  exact PSc_double kind neg V bits text aL nL cL aK nK cK hV w hT
 ·obtain rfl:=mk_of he
  rw [show scT (ByteArray.mk ([105,110,116,51,50]:List UInt8).toArray).toList kind neg V=(rngT kind neg V (-2147483648) 2147483647) from by rw [tl];rfl]
  exact PSc_int32 kind neg V bits text aL nL cL aK nK cK hV hm w
 ·obtain rfl:=mk_of he
  rw [show scT (ByteArray.mk ([105,110,116,54,52]:List UInt8).toArray).toList kind neg V=(rngT kind neg V (-9223372036854775808) 9223372036854775807) from by rw [tl];rfl]
  exact PSc_int64 kind neg V bits text aL nL cL aK nK cK hV hm w
 ·obtain rfl:=mk_of he
  rw [show scT (ByteArray.mk ([117,105,110,116,51,50]:List UInt8).toArray).toList kind neg V=(rngT kind neg V (0) 4294967295) from by rw [tl];rfl]
  exact PSc_uint32 kind neg V bits text aL nL cL aK nK cK hV hm w
 ·obtain rfl:=mk_of he
  rw [show scT (ByteArray.mk ([117,105,110,116,54,52]:List UInt8).toArray).toList kind neg V=(rngT kind neg V (0) 18446744073709551615) from by rw [tl];rfl]
  exact PSc_uint64 kind neg V bits text aL nL cL aK nK cK hV hm w
 ·obtain rfl:=mk_of he
  rw [show scT (ByteArray.mk ([115,105,110,116,51,50]:List UInt8).toArray).toList kind neg V=(rngT kind neg V (-2147483648) 2147483647) from by rw [tl];rfl]
  exact PSc_sint32 kind neg V bits text aL nL cL aK nK cK hV hm w
 ·obtain rfl:=mk_of he
  rw [show scT (ByteArray.mk ([115,105,110,116,54,52]:List UInt8).toArray).toList kind neg V=(rngT kind neg V (-9223372036854775808) 9223372036854775807) from by rw [tl];rfl]
  exact PSc_sint64 kind neg V bits text aL nL cL aK nK cK hV hm w
 ·obtain rfl:=mk_of he
  rw [show scT (ByteArray.mk ([98,111,111,108]:List UInt8).toArray).toList kind neg V=(decide (kind=2)) from by rw [tl];rfl]
  exact PSc_bool kind neg V bits text aL nL cL aK nK cK w
 ·obtain rfl:=mk_of he
  rw [show scT (ByteArray.mk ([115,116,114,105,110,103]:List UInt8).toArray).toList kind neg V=(decide (kind=5)) from by rw [tl];rfl]
  exact PSc_string kind neg V bits text aL nL cL aK nK cK w
 ·obtain rfl:=mk_of he
  rw [show scT (ByteArray.mk ([98,121,116,101,115]:List UInt8).toArray).toList kind neg V=(decide (kind=6)) from by rw [tl];rfl]
  exact PSc_bytes kind neg V bits text aL nL cL aK nK cK w
end Go.Proofs.YtfondldmmcmloaaDoor
