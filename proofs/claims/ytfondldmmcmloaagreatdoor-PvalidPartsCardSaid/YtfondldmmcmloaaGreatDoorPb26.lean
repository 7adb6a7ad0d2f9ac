/- PO, PQ, PR, App, RowV, PS. -/
import Derived.Deep.AppendSrc
import Derived.Test.YtfondldmmcmloaaGreatDoorPb25
set_option maxRecDepth 1000000
set_option maxHeartbeats 8000000
namespace Go.Proofs.YtfondldmmcmloaaGreatDoor
open Go Go.RowKit
theorem z26zs1 {p q:Prop} (h:q) (e:q→p:=by intro hq;(try simp only [Act.put,List.setIfInBounds_toArray,List.set_cons_zero,List.set_cons_succ]);exact hq):p:=e h
theorem z26zs2 {p q:Prop} (h:q) (e:q→p:=by intro hq;simp only [Act.put,List.setIfInBounds_toArray,List.set_cons_zero,List.set_cons_succ];exact hq):p:=e h
theorem z26zk1 {p:Prop} (h:p:=by
 by_cases c:nL=0
 ·obtain rfl:R=true:=by rw [hR,decide_eq_true c]
  subst c
  clear hR hrm
  go_enter Tryz.func35,Tryz.ntmps35
  repeat any_goals (first|go_skip|go_guarded|go_step|go_upon|(simp only [];done))
  exact bodyPost_ret (v:=.bool true) z0f1 rfl ⟨rfl,zb2⟩
 ·obtain rfl:R=false:=by rw [hR,decide_eq_false c]
  have c1:((nL:Int) == 0)=false:=by simpa using c
  clear hR hrm
  go_enter Tryz.func35,Tryz.ntmps35
  repeat any_goals (first|go_skip|go_guarded|go_step|go_upon|(simp only [];done))
  exact bodyPost_ret (v:=.bool false) z0f1 rfl ⟨rfl,zb2⟩):p:=h
theorem z26zk2 {p:Prop} (h:p:=by
 repeat (first|go_big_quiet_skip|(refine wpQuiet_skip (by rfl) ?_;refine z26zs2 ?_)|(go_big_quiet_want;go_big_quiet_op;go_big_quiet_on))
 (refine wpQuiet_nil ?_;intro w2 hw2;rw [HC.out] at hw2)
 repeat any_goals (first|go_skip|go_guarded|go_step|go_upon|(simp only [];done))
 exact bodyPost_ret (v:=.bool false) z0f1 rfl ⟨rfl,below_trans hW hw2⟩):p:=h
theorem z26zk3 {p:Prop} (h:p:=by
 (go_big_quiet_want;go_big_quiet_op;go_big_quiet_on)
 (go_big_quiet_want;go_big_quiet_op;go_big_quiet_on)
 go_big_quiet_skip
 go_big_quiet_skip
 go_big_quiet_skip
 go_big_quiet_skip
 go_big_quiet_skip
 go_big_quiet_skip
 (go_big_quiet_want;go_big_quiet_op;go_big_quiet_on)
 (go_big_quiet_want;go_big_quiet_op;go_big_quiet_on)
 (refine wpQuiet_nil ?_;intro w2 hw2;rw [HC.out] at hw2)
 repeat any_goals (first|go_skip|go_guarded|go_step|go_upon|(simp only [];done))
 exact bodyPost_ret (v:=.bool false) (by simp [results,Tryz.results11,go_sem]) rfl ⟨rfl,below_trans hW0 hw2⟩):p:=h
end Go.Proofs.YtfondldmmcmloaaGreatDoor
namespace Go.Proofs.YtfondldmmcmloaaGreatDoor
open Go.RowKit
def validB (M:Nat→PM) (n:Nat) (T:VT):Bool:=checkB M n && (decide (T.may=0) && (okT M n T).msg (M 0))
theorem check_pos {M:Nat→PM} {n:Nat} (h:checkB M n=true):0 < n:=by
 unfold checkB at h
 rw [Bool.and_eq_true] at h
 have:=of_decide_eq_true h.1
 omega
theorem checkI_eq {M:Nat→PM} {n:Nat}:(checkI M n == 0)=checkB M n:=by
 unfold checkI
 cases checkB M n <;> rfl
/-- **Valid** of the program -/
theorem PValidM_any (M:Nat→PM) (a:Option Addr) (n c:Nat) (T:VT) (w:World) (hL:PL w a n c M) (hin:T.In w) (hU:U8T w) (hT:Tab w) (hN:T.nodes < 4611686018427387904) :
  Calls Tryz.prog 11 #[.slice a n c,T.agg] w fun e w'=>e=.returned (.bool (validB M n T))∧Below w.heap.size w w':=by
 have HL:=Lib.hid hL
 have HIN:=Lib.hid hin
 obtain ⟨R,hR⟩:∃ R,R=validB M n T:=⟨_,rfl⟩
 rw [← hR]
 have HR:=Lib.hid hR
 obtain ⟨ci,hci⟩:∃ x,checkI M n=x:=⟨_,rfl⟩
 obtain ⟨mi,hmi⟩:∃ x,T.may=x:=⟨_,rfl⟩
 obtain ⟨mg,hmg⟩:∃ x,(okT M n T).msg (M 0)=x:=⟨_,rfl⟩
 have C1:=Lib.hid fun wx (hx:Below w.heap.size w wx)=>PCheck_any a n c M wx (HL.out.below hx)
 have C2:=Lib.hid fun wx (hx:Below w.heap.size w wx)=>MayV_any T wx (VT.In.below hx _ HIN.out) (Utf8Tabs_below hU hx) (hT.below hx) hN
 have C3:=Lib.hid fun (hc:checkB M n=true) (hr:T.right=true) wx (hx:Below w.heap.size w wx)=>(pvalid_all M a n c (check_types hc) T).2.2 0 wx (check_pos hc) (HL.out.below hx) (VT.In.below hx _ HIN.out) hr (hT.below hx)
 rw [hci] at C1
 rw [hmi] at C2
 rw [hmg] at C3
 have HCI:=Lib.hid (show (ci == 0)=checkB M n from by rw [← hci];exact checkI_eq)
 have HMI:=Lib.hid hmi
 have HV:=Lib.hid (show R=(checkB M n && (decide (mi=0) && mg)) from by rw [hR];unfold validB;rw [hmi,hmg])
 have q1:=hL.l
 have q2:=hL.lc
 simp only [maxLen] at q2
 clear hL hU hT hN hR hci hmi hmg
 cases T with
 | nil=>exact hin.elim
 | mk kind neg V bits text aL nL cL kids aK nK cK keys=>
  clear hin
  unfold VT.agg VT.cells at C2 C3 ⊢
  unfold PM.agg at C3
  go_enter Tryz.func11,Tryz.ntmps11
  go_upto_region 1 with fail
  have V0:=Lib.hid (vbx_new w 31 kind neg V bits text aL nL cL aK nK cK)
  have hW0:=below_alloc (Below.refl w.heap.size w) (.cells #[.int .i64 kind,.bool neg,.int .u64 (lm V 0:Nat),.int .u64 (lm V 1:Nat),.int .u64 (lm V 2:Nat),.int .u64 (lm V 3:Nat),.int .u64 (bits:Nat),.string text,.slice aL nL cL,.slice aK nK cK] 31)
  generalize w.alloc (.cells #[.int .i64 kind,.bool neg,.int .u64 (lm V 0:Nat),.int .u64 (lm V 1:Nat),.int .u64 (lm V 2:Nat),.int .u64 (lm V 3:Nat),.int .u64 (bits:Nat),.string text,.slice aL nL cL,.slice aK nK cK] 31)=w0 at *
  obtain ⟨B0,hB0⟩:∃ B,B=w.heap.size:=⟨_,rfl⟩
  rw [← hB0] at V0 ⊢
  have hB0':=Lib.hid hB0
  clear hB0
  by_cases c1:checkB M n=true
  ·have e1:(ci == 0)=true:=by rw [HCI.out];exact c1
   have HN0:=check_pos c1
   obtain ⟨b,off,ea,-,hm4,-⟩:=m_lit HL.out HN0 hW0
   subst ea
   have M0:=Lib.hid (show ML w0 b (off+0 * 4) (M 0) from ⟨⟨hm4.all.1,hm4.all.2.1,hm4.all.2.2.1,hm4.all.2.2.2,trivial⟩⟩)
   rw [show off+0 * 4=off from by omega] at M0
   have i1:(0:Int) < (n:Int):=by omega
   by_cases c2:mi=0
   ·have e2:(mi == 0)=true:=beq_iff_eq.2 c2
    have hr:=(VT.may_zero.1 (HMI.out.trans c2)).2.2.2
    have C4:=Lib.hid (C3.out c1 hr)
    obtain rfl:R=mg:=by rw [HV.out,c1,decide_eq_true c2];rfl
    clear c2 hr hm4
    (obtain ⟨C_,hC⟩:∃ C:World→Prop,C=fun w'=>Below (w0).heap.size (w0) w':=⟨_,rfl⟩;have HC:=Lib.hid hC;have hne:∀ p:Prop,(∀ w1:World,C_ w1→p)=p:=fun p=>propext ⟨fun h=>h (w0) z0i,fun h _ _=>h⟩;clear hC;refine wp_region_quiet_cls (C:=C_) z0a z0a z0g ?_)
    (go_big_quiet_want;go_big_quiet_op;go_big_quiet_on)
    (go_big_quiet_want;go_big_quiet_op;refine ⟨.int .i64 ci,fun w1 hw1=>?_,?_⟩;(rw [HC.out] at hw1 ⊢;with_reducible refine (C1.out _ (below_trans hW0 hw1)).mono ?_;rintro e w4 ⟨rfl,hb4⟩;exact ⟨rfl,below_trans hw1 hb4⟩);go_big_quiet_on)
    (go_big_quiet_want;go_big_quiet_op;go_big_quiet_on)
    (go_big_quiet_want;go_big_quiet_op;go_big_quiet_on)
    (go_big_quiet_want;refine ⟨.agg #[.int .i64 kind,.bool neg,.int .u64 (lm V 0:Nat),.int .u64 (lm V 1:Nat),.int .u64 (lm V 2:Nat),.int .u64 (lm V 3:Nat),.int .u64 (bits:Nat),.string text,.slice aL nL cL,.slice aK nK cK],fun w1 hw1=>?_,?_⟩;(rw [HC.out] at hw1;obtain ⟨_,_,_,_,_⟩:=(V0.out.below hw1).all;simp [Oper.quietAt,go_sem, *]);refine z26zs1 ?_;go_big_quiet_on)
    (go_big_quiet_want;go_big_quiet_op;refine ⟨.int .i64 mi,fun w1 hw1=>?_,?_⟩;(rw [HC.out] at hw1 ⊢;with_reducible refine (C2.out _ (below_trans hW0 hw1)).mono ?_;rintro e w4 ⟨rfl,hb4⟩;exact ⟨rfl,below_trans hw1 hb4⟩);go_big_quiet_on)
    (go_big_quiet_want;go_big_quiet_op;go_big_quiet_on)
    (go_big_quiet_want;go_big_quiet_op;go_big_quiet_on)
    (go_big_quiet_want;go_big_quiet_op;go_big_quiet_on)
    (go_big_quiet_want;go_big_quiet_op;go_big_quiet_on)
    (go_big_quiet_want;go_big_quiet_op;go_big_quiet_on)
    (go_big_quiet_want;go_big_quiet_op;go_big_quiet_on)
    (go_big_quiet_want;refine ⟨.agg #[.string (M 0).name,.slice (M 0).aF (M 0).nF (M 0).cF,.slice (M 0).aN (M 0).nN (M 0).cN,.slice (M 0).aS (M 0).nS (M 0).cS],fun w1 hw1=>?_,?_⟩;(rw [HC.out] at hw1;obtain ⟨_,_,_,_,_⟩:=(M0.out.below hw1).all;simp [Oper.quietAt,go_sem, *]);refine z26zs1 ?_;go_big_quiet_on)
    (go_big_quiet_want;refine ⟨.agg #[.int .i64 kind,.bool neg,.int .u64 (lm V 0:Nat),.int .u64 (lm V 1:Nat),.int .u64 (lm V 2:Nat),.int .u64 (lm V 3:Nat),.int .u64 (bits:Nat),.string text,.slice aL nL cL,.slice aK nK cK],fun w1 hw1=>?_,?_⟩;(rw [HC.out] at hw1;obtain ⟨_,_,_,_,_⟩:=(V0.out.below hw1).all;simp [Oper.quietAt,go_sem, *]);refine z26zs1 ?_;go_big_quiet_on)
    (go_big_quiet_want;go_big_quiet_op;refine ⟨.bool R,fun w1 hw1=>?_,?_⟩;(rw [HC.out] at hw1 ⊢;with_reducible refine (C4.out _ (below_trans hW0 hw1)).mono ?_;rintro e w4 ⟨rfl,hb4⟩;exact ⟨rfl,below_trans hw1 hb4⟩);go_big_quiet_on)
    (go_big_quiet_want;go_big_quiet_op;go_big_quiet_on)
    (go_big_quiet_want;go_big_quiet_op;go_big_quiet_on)
    (refine wpQuiet_nil ?_;intro w2 hw2;rw [HC.out] at hw2)
    repeat any_goals (first|go_skip|go_guarded|go_step|go_upon|(simp only [];done))
    exact bodyPost_ret (v:=.bool R) (by simp [results,Tryz.results11,go_sem]) rfl ⟨rfl,below_trans hW0 hw2⟩
   ·have e2:(mi == 0)=false:=beq_false_of_ne c2
    obtain rfl:R=false:=by rw [HV.out,decide_eq_false c2,Bool.false_and,Bool.and_false]
    clear c2 hm4
    (obtain ⟨C_,hC⟩:∃ C:World→Prop,C=fun w'=>Below (w0).heap.size (w0) w':=⟨_,rfl⟩;have HC:=Lib.hid hC;have hne:∀ p:Prop,(∀ w1:World,C_ w1→p)=p:=fun p=>propext ⟨fun h=>h (w0) z0i,fun h _ _=>h⟩;clear hC;refine wp_region_quiet_cls (C:=C_) z0a z0a z0g ?_)
    (go_big_quiet_want;go_big_quiet_op;go_big_quiet_on)
    (go_big_quiet_want;go_big_quiet_op;refine ⟨.int .i64 ci,fun w1 hw1=>?_,?_⟩;(rw [HC.out] at hw1 ⊢;with_reducible refine (C1.out _ (below_trans hW0 hw1)).mono ?_;rintro e w4 ⟨rfl,hb4⟩;exact ⟨rfl,below_trans hw1 hb4⟩);go_big_quiet_on)
    (go_big_quiet_want;go_big_quiet_op;go_big_quiet_on)
    (go_big_quiet_want;go_big_quiet_op;go_big_quiet_on)
    (go_big_quiet_want;refine ⟨.agg #[.int .i64 kind,.bool neg,.int .u64 (lm V 0:Nat),.int .u64 (lm V 1:Nat),.int .u64 (lm V 2:Nat),.int .u64 (lm V 3:Nat),.int .u64 (bits:Nat),.string text,.slice aL nL cL,.slice aK nK cK],fun w1 hw1=>?_,?_⟩;(rw [HC.out] at hw1;obtain ⟨_,_,_,_,_⟩:=(V0.out.below hw1).all;simp [Oper.quietAt,go_sem, *]);refine z26zs1 ?_;go_big_quiet_on)
    (go_big_quiet_want;go_big_quiet_op;refine ⟨.int .i64 mi,fun w1 hw1=>?_,?_⟩;(rw [HC.out] at hw1 ⊢;with_reducible refine (C2.out _ (below_trans hW0 hw1)).mono ?_;rintro e w4 ⟨rfl,hb4⟩;exact ⟨rfl,below_trans hw1 hb4⟩);go_big_quiet_on)
    (go_big_quiet_want;go_big_quiet_op;go_big_quiet_on)
    exact z26zk3
  ·have e1:(ci == 0)=false:=by rw [HCI.out];exact Bool.eq_false_iff.2 c1
   obtain rfl:R=false:=by rw [HV.out,Bool.eq_false_iff.2 c1];rfl
   (obtain ⟨C_,hC⟩:∃ C:World→Prop,C=fun w'=>Below (w0).heap.size (w0) w':=⟨_,rfl⟩;have HC:=Lib.hid hC;have hne:∀ p:Prop,(∀ w1:World,C_ w1→p)=p:=fun p=>propext ⟨fun h=>h (w0) z0i,fun h _ _=>h⟩;clear hC;refine wp_region_quiet_cls (C:=C_) z0a z0a z0g ?_)
   (go_big_quiet_want;go_big_quiet_op;go_big_quiet_on)
   (go_big_quiet_want;go_big_quiet_op;refine ⟨.int .i64 ci,fun w1 hw1=>?_,?_⟩;(rw [HC.out] at hw1 ⊢;with_reducible refine (C1.out _ (below_trans hW0 hw1)).mono ?_;rintro e w4 ⟨rfl,hb4⟩;exact ⟨rfl,below_trans hw1 hb4⟩);go_big_quiet_on)
   (go_big_quiet_want;go_big_quiet_op;go_big_quiet_on)
   (go_big_quiet_want;go_big_quiet_op;go_big_quiet_on)
   go_big_quiet_skip
   go_big_quiet_skip
   go_big_quiet_skip
   exact z26zk3
def leftB (f:PF) (kind:Int) (neg:Bool) (V bits:Nat) (text:ByteArray) (nL:Nat):Bool:=
 if f.rep || f.map then decide (nL=0) else !f.opt && scalarB f.type && !decide (kind=4) && decide (neg=false∧V=0∧bits=0∧text=⟨#[]⟩)
theorem SxF.all {w:World} {B:Nat} {a0 a1 a2 a3 a4 a5:Value} (h:SxF w B a0 a1 a2 a3 a4 a5):w.cell? ⟨B,0,none⟩=some a0∧w.cell? ⟨B,1,none⟩=some a1∧w.cell? ⟨B,2,none⟩=some a2∧w.cell? ⟨B,3,none⟩=some a3∧w.cell? ⟨B,4,none⟩=some a4∧w.cell? ⟨B,5,none⟩=some a5:=h.c
theorem lm_none (j:Nat):((lm 0 j:Nat):Int)=0:=by simp [lm]
theorem PEmpty_row (nm ty:ByteArray) (num:Int) (o r m:Bool) (kind:Int) (neg:Bool) (V bits:Nat) (text:ByteArray) (aL:Option Addr) (nL cL:Nat) (aK:Option Addr) (nK cK:Nat) (w:World) (hl:nL≤cL) (hrm:(r || m)=true) :
  Calls Tryz.prog 35 #[.agg #[.string nm,.string ty,.int .i64 num,.bool o,.bool r,.bool m],.agg #[.int .i64 kind,.bool neg,.int .u64 (lm V 0:Nat),.int .u64 (lm V 1:Nat),.int .u64 (lm V 2:Nat),.int .u64 (lm V 3:Nat),.int .u64 (bits:Nat),.string text,.slice aL nL cL,.slice aK nK cK]] w fun e w'=>e=.returned (.bool (decide (nL=0)))∧Below w.heap.size w w':=by
 obtain ⟨R,hR⟩:∃ R,R=decide (nL=0):=⟨_,rfl⟩
 rw [← hR]
 cases r with
 | true=>
  exact z26zk1
 | false=>
  obtain rfl:m=true:=by simpa using hrm
  exact z26zk1
theorem PEmpty_sc (nm ty:ByteArray) (num:Int) (o:Bool) (kind:Int) (neg:Bool) (V bits:Nat) (text:ByteArray) (aL:Option Addr) (nL cL:Nat) (aK:Option Addr) (nK cK:Nat) (w:World) (x d:Bool) (R:Bool)
  (C1:Hid (∀ wr:World,Calls Tryz.prog 43 #[.string ty] wr fun e w'=>e=.returned (.bool x)∧Below wr.heap.size wr w'))
  (hd:eqSc kind neg (lm V 0:Nat) (lm V 1:Nat) (lm V 2:Nat) (lm V 3:Nat) (bits:Nat) text kind false 0 0 0 0 0 ⟨#[]⟩=d) (HR:Hid (R=(!o && x && !decide (kind=4) && d))) :
  Calls Tryz.prog 35 #[.agg #[.string nm,.string ty,.int .i64 num,.bool o,.bool false,.bool false],.agg #[.int .i64 kind,.bool neg,.int .u64 (lm V 0:Nat),.int .u64 (lm V 1:Nat),.int .u64 (lm V 2:Nat),.int .u64 (lm V 3:Nat),.int .u64 (bits:Nat),.string text,.slice aL nL cL,.slice aK nK cK]] w fun e w'=>e=.returned (.bool R)∧Below w.heap.size w w':=by
 go_enter Tryz.func35,Tryz.ntmps35
 go_upto_region 15 with fail
 have hW:Below w.heap.size w ((w.alloc (.cells #[.string nm,.string ty,.int .i64 num,.bool o,.bool false,.bool false] 47)).alloc (.cells #[.int .i64 kind,.bool neg,.int .u64 (lm V 0:Nat),.int .u64 (lm V 1:Nat),.int .u64 (lm V 2:Nat),.int .u64 (lm V 3:Nat),.int .u64 (bits:Nat),.string text,.slice aL nL cL,.slice aK nK cK] 31)):=zb2
 have S:=Lib.hid ((sxf_new w 47 (.string nm) (.string ty) (.int .i64 num) (.bool o) (.bool false) (.bool false)).below (show Below (w.alloc (.cells #[.string nm,.string ty,.int .i64 num,.bool o,.bool false,.bool false] 47)).heap.size (w.alloc (.cells #[.string nm,.string ty,.int .i64 num,.bool o,.bool false,.bool false] 47)) ((w.alloc (.cells #[.string nm,.string ty,.int .i64 num,.bool o,.bool false,.bool false] 47)).alloc (.cells #[.int .i64 kind,.bool neg,.int .u64 (lm V 0:Nat),.int .u64 (lm V 1:Nat),.int .u64 (lm V 2:Nat),.int .u64 (lm V 3:Nat),.int .u64 (bits:Nat),.string text,.slice aL nL cL,.slice aK nK cK] 31)) from zb2))
 have X:=Lib.hid (vbx_new (w.alloc (.cells #[.string nm,.string ty,.int .i64 num,.bool o,.bool false,.bool false] 47)) 31 kind neg V bits text aL nL cL aK nK cK)
 rw [show (w.alloc (.cells #[.string nm,.string ty,.int .i64 num,.bool o,.bool false,.bool false] 47)).heap.size=w.heap.size+1 by simp [go_sem]] at X
 generalize ((w.alloc (.cells #[.string nm,.string ty,.int .i64 num,.bool o,.bool false,.bool false] 47)).alloc (.cells #[.int .i64 kind,.bool neg,.int .u64 (lm V 0:Nat),.int .u64 (lm V 1:Nat),.int .u64 (lm V 2:Nat),.int .u64 (lm V 3:Nat),.int .u64 (bits:Nat),.string text,.slice aL nL cL,.slice aK nK cK] 31))=W at *
 cases o with
 | true=>
  obtain rfl:R=false:=by rw [HR.out];rfl
  (obtain ⟨C_,hC⟩:∃ C:World→Prop,C=fun w'=>Below (W).heap.size (W) w':=⟨_,rfl⟩;have HC:=Lib.hid hC;have hne:∀ p:Prop,(∀ w1:World,C_ w1→p)=p:=fun p=>propext ⟨fun h=>h (W) z0i,fun h _ _=>h⟩;clear hC;refine wp_region_quiet_cls (C:=C_) z0a z0a z0g ?_)
  (go_big_quiet_want;go_big_quiet_op;go_big_quiet_on)
  (go_big_quiet_want;refine ⟨.bool true,fun w1 hw1=>?_,?_⟩;(rw [HC.out] at hw1;obtain ⟨_,_,_,_,_⟩:=(S.out.below hw1).all;simp [Oper.quietAt,go_sem, *]);refine z26zs1 ?_;go_big_quiet_on)
  exact z26zk2
 | false=>
  cases x with
  | false=>
   obtain rfl:R=false:=by rw [HR.out];rfl
   (obtain ⟨C_,hC⟩:∃ C:World→Prop,C=fun w'=>Below (W).heap.size (W) w':=⟨_,rfl⟩;have HC:=Lib.hid hC;have hne:∀ p:Prop,(∀ w1:World,C_ w1→p)=p:=fun p=>propext ⟨fun h=>h (W) z0i,fun h _ _=>h⟩;clear hC;refine wp_region_quiet_cls (C:=C_) z0a z0a z0g ?_)
   (go_big_quiet_want;go_big_quiet_op;go_big_quiet_on)
   (go_big_quiet_want;refine ⟨.bool false,fun w1 hw1=>?_,?_⟩;(rw [HC.out] at hw1;obtain ⟨_,_,_,_,_⟩:=(S.out.below hw1).all;simp [Oper.quietAt,go_sem, *]);refine z26zs1 ?_;go_big_quiet_on)
   (go_big_quiet_want;go_big_quiet_op;go_big_quiet_on)
   (go_big_quiet_want;go_big_quiet_op;go_big_quiet_on)
   (go_big_quiet_want;go_big_quiet_op;go_big_quiet_on)
   (go_big_quiet_want;refine ⟨.string ty,fun w1 hw1=>?_,?_⟩;(rw [HC.out] at hw1;obtain ⟨_,_,_,_,_⟩:=(S.out.below hw1).all;simp [Oper.quietAt,go_sem, *]);refine z26zs1 ?_;go_big_quiet_on)
   (go_big_quiet_want;go_big_quiet_op;refine ⟨.bool false,fun w1 hw1=>?_,?_⟩;(rw [HC.out] at hw1 ⊢;with_reducible refine (C1.out _).mono ?_;rintro e w4 ⟨rfl,hb4⟩;exact ⟨rfl,below_trans hw1 hb4⟩);go_big_quiet_on)
   exact z26zk2
  | true=>
   by_cases c:kind=4
   ·obtain rfl:R=false:=by rw [HR.out,decide_eq_true c];rfl
    subst c
    (obtain ⟨C_,hC⟩:∃ C:World→Prop,C=fun w'=>Below (W).heap.size (W) w':=⟨_,rfl⟩;have HC:=Lib.hid hC;have hne:∀ p:Prop,(∀ w1:World,C_ w1→p)=p:=fun p=>propext ⟨fun h=>h (W) z0i,fun h _ _=>h⟩;clear hC;refine wp_region_quiet_cls (C:=C_) z0a z0a z0g ?_)
    (go_big_quiet_want;go_big_quiet_op;go_big_quiet_on)
    (go_big_quiet_want;refine ⟨.bool false,fun w1 hw1=>?_,?_⟩;(rw [HC.out] at hw1;obtain ⟨_,_,_,_,_⟩:=(S.out.below hw1).all;simp [Oper.quietAt,go_sem, *]);refine z26zs1 ?_;go_big_quiet_on)
    (go_big_quiet_want;go_big_quiet_op;go_big_quiet_on)
    (go_big_quiet_want;go_big_quiet_op;go_big_quiet_on)
    (go_big_quiet_want;go_big_quiet_op;go_big_quiet_on)
    (go_big_quiet_want;refine ⟨.string ty,fun w1 hw1=>?_,?_⟩;(rw [HC.out] at hw1;obtain ⟨_,_,_,_,_⟩:=(S.out.below hw1).all;simp [Oper.quietAt,go_sem, *]);refine z26zs1 ?_;go_big_quiet_on)
    (go_big_quiet_want;go_big_quiet_op;refine ⟨.bool true,fun w1 hw1=>?_,?_⟩;(rw [HC.out] at hw1 ⊢;with_reducible refine (C1.out _).mono ?_;rintro e w4 ⟨rfl,hb4⟩;exact ⟨rfl,below_trans hw1 hb4⟩);go_big_quiet_on)
    (go_big_quiet_want;go_big_quiet_op;go_big_quiet_on)
    (go_big_quiet_want;go_big_quiet_op;go_big_quiet_on)
    (go_big_quiet_want;go_big_quiet_op;go_big_quiet_on)
    (go_big_quiet_want;refine ⟨.int .i64 4,fun w1 hw1=>?_,?_⟩;(rw [HC.out] at hw1;obtain ⟨_,_,_,_,_⟩:=(X.out.below hw1).all;simp [Oper.quietAt,go_sem, *]);refine z26zs1 ?_;go_big_quiet_on)
    exact z26zk2
   ·obtain rfl:R=d:=by rw [HR.out,decide_eq_false c];simp
    have c1:(kind == 4)=false:=beq_false_of_ne c
    have c2:(kind != 4)=true:=bne_iff_ne.2 c
    clear HR
    (obtain ⟨C_,hC⟩:∃ C:World→Prop,C=fun w'=>Below (W).heap.size (W) w':=⟨_,rfl⟩;have HC:=Lib.hid hC;have hne:∀ p:Prop,(∀ w1:World,C_ w1→p)=p:=fun p=>propext ⟨fun h=>h (W) z0i,fun h _ _=>h⟩;clear hC;refine wp_region_quiet_cls (C:=C_) z0a z0a z0g ?_)
    (go_big_quiet_want;go_big_quiet_op;go_big_quiet_on)
    (go_big_quiet_want;refine ⟨.bool false,fun w1 hw1=>?_,?_⟩;(rw [HC.out] at hw1;obtain ⟨_,_,_,_,_⟩:=(S.out.below hw1).all;simp [Oper.quietAt,go_sem, *]);refine z26zs1 ?_;go_big_quiet_on)
    (go_big_quiet_want;go_big_quiet_op;go_big_quiet_on)
    (go_big_quiet_want;go_big_quiet_op;go_big_quiet_on)
    (go_big_quiet_want;go_big_quiet_op;go_big_quiet_on)
    (go_big_quiet_want;refine ⟨.string ty,fun w1 hw1=>?_,?_⟩;(rw [HC.out] at hw1;obtain ⟨_,_,_,_,_⟩:=(S.out.below hw1).all;simp [Oper.quietAt,go_sem, *]);refine z26zs1 ?_;go_big_quiet_on)
    (go_big_quiet_want;go_big_quiet_op;refine ⟨.bool true,fun w1 hw1=>?_,?_⟩;(rw [HC.out] at hw1 ⊢;with_reducible refine (C1.out _).mono ?_;rintro e w4 ⟨rfl,hb4⟩;exact ⟨rfl,below_trans hw1 hb4⟩);go_big_quiet_on)
    (go_big_quiet_want;go_big_quiet_op;go_big_quiet_on)
    (go_big_quiet_want;go_big_quiet_op;go_big_quiet_on)
    (go_big_quiet_want;go_big_quiet_op;go_big_quiet_on)
    (go_big_quiet_want;refine ⟨.int .i64 kind,fun w1 hw1=>?_,?_⟩;(rw [HC.out] at hw1;obtain ⟨_,_,_,_,_⟩:=(X.out.below hw1).all;simp [Oper.quietAt,go_sem, *]);refine z26zs1 ?_;go_big_quiet_on)
    (go_big_quiet_want;refine ⟨.bool true,fun w1 hw1=>?_,?_⟩;(rw [HC.out] at hw1;obtain ⟨_,_,_,_,_⟩:=(X.out.below hw1).all;simp [Oper.quietAt,go_sem, *]);refine z26zs1 ?_;go_big_quiet_on)
    (go_big_quiet_want;go_big_quiet_op;go_big_quiet_on)
    (go_big_quiet_want;go_big_quiet_op;go_big_quiet_on)
    (go_big_quiet_want;refine ⟨.agg #[.int .i64 kind,.bool neg,.int .u64 (lm V 0:Nat),.int .u64 (lm V 1:Nat),.int .u64 (lm V 2:Nat),.int .u64 (lm V 3:Nat),.int .u64 (bits:Nat),.string text,.slice aL nL cL,.slice aK nK cK],fun w1 hw1=>?_,?_⟩;(rw [HC.out] at hw1;obtain ⟨_,_,_,_,_⟩:=(X.out.below hw1).all;simp [Oper.quietAt,go_sem, *]);refine z26zs1 ?_;go_big_quiet_on)
    (go_big_quiet_want;go_big_quiet_op;refine ⟨.agg #[.int .i64 kind,.bool neg,.int .u64 (lm V 0:Nat),.int .u64 (lm V 1:Nat),.int .u64 (lm V 2:Nat),.int .u64 (lm V 3:Nat),.int .u64 (bits:Nat),.string text],fun w1 hw1=>?_,?_⟩;(rw [HC.out] at hw1 ⊢;with_reducible refine (VOf_any _ _ _ _ _ _ _ _ _ _ _ _).mono ?_;rintro e w4 ⟨rfl,hb4⟩;exact ⟨rfl,below_trans hw1 hb4⟩);go_big_quiet_on)
    (go_big_quiet_want;go_big_quiet_op;go_big_quiet_on)
    (go_big_quiet_want;refine ⟨.int .i64 kind,fun w1 hw1=>?_,?_⟩;(rw [HC.out] at hw1;obtain ⟨_,_,_,_,_⟩:=(X.out.below hw1).all;simp [Oper.quietAt,go_sem, *]);refine z26zs1 ?_;go_big_quiet_on)
    (go_big_quiet_want;go_big_quiet_op;go_big_quiet_on)
    (go_big_quiet_want;refine ⟨.bool R,fun w1 hw1=>?_,?_⟩;(rw [HC.out] at hw1;obtain ⟨_,_,_,_,_⟩:=(X.out.below hw1).all;simp [Oper.quietAt,go_sem, *]);refine z26zs1 ?_;go_big_quiet_on)
    repeat (first|go_big_quiet_skip|(refine wpQuiet_skip (by rfl) ?_;refine z26zs2 ?_)|(go_big_quiet_want;go_big_quiet_op;go_big_quiet_on))
    (refine wpQuiet_nil ?_;intro w2 hw2;rw [HC.out] at hw2)
    repeat any_goals (first|go_skip|go_guarded|go_step|go_upon|(simp only [];done))
    exact bodyPost_ret (v:=.bool R) z0f1 rfl ⟨rfl,below_trans hW hw2⟩
theorem PEmpty_any (g:PF) (kind:Int) (neg:Bool) (V bits:Nat) (text:ByteArray) (aL:Option Addr) (nL cL:Nat) (aK:Option Addr) (nK cK:Nat) (hV:V < 2 ^ 256) (hl:nL≤cL) (w:World) :
  Calls Tryz.prog 35 #[g.agg,.agg #[.int .i64 kind,.bool neg,.int .u64 (lm V 0:Nat),.int .u64 (lm V 1:Nat),.int .u64 (lm V 2:Nat),.int .u64 (lm V 3:Nat),.int .u64 (bits:Nat),.string text,.slice aL nL cL,.slice aK nK cK]] w fun e w'=>e=.returned (.bool (leftB g kind neg V bits text nL))∧Below w.heap.size w w':=by
 obtain ⟨nm,ty,num,o,r,m⟩:=g
 unfold PF.agg leftB
 by_cases c:(r || m)=true
 ·rw [if_pos c]
  exact PEmpty_row nm ty num o r m kind neg V bits text aL nL cL aK nK cK w hl c
 ·rw [if_neg c]
  obtain ⟨rfl,rfl⟩:r=false∧m=false:=by simpa using c
  have e:=eqSc_lm (k:=kind) (s:=neg) (s':=false) (V:=V) (U:=0) (b:=bits) (b':=0) (t:=text) (t':=⟨#[]⟩) hV z0c
  simp only [lm_none] at e
  exact PEmpty_sc nm ty num o kind neg V bits text aL nL cL aK nK cK w (scalarB ty) _ _ (Lib.hid fun wr=>(PScalar_any ty wr).mono (by rintro e w1 ⟨rfl,rfl⟩;exact ⟨rfl,Below.refl _ _⟩)) e (Lib.hid rfl)
open Go
def SrcOk (w:World) (x:Value) (m size:Nat) (news:List Value):Prop:=
 (∃ ad c,x=.slice (some ad) m c∧news.length=m * size∧(∀ j u,news[j]? = some u→w.cell? (ad.add j)=some u)∧∀ u ∈ news,u.oneCell'=true)∨(∃ c,x=.slice none 0 c∧m=0∧news=[])
def InBlock (v:Value) (n:Nat):Prop:=∃ g c,v=.slice (some ⟨g,0,none⟩) n c
section
variable {P:Program} {w:World}
theorem grownBy_self (w:World) (row:Option Nat):w.grownBy w row:=⟨rfl,rfl,rfl,Nat.le_refl _,fun _ _ _=>rfl⟩
theorem wp_append_row {o:Oper} {a:Act} {K:Act→World→Prop} {Q:Exit→Act→World→Prop} (s x:Operand) (t:TypeId)
  (ho:o.op=.call { callee:=.builtin .append,args:=#[s,x],argTypes:=#[t,t] })
  (base:Nat) (e:TypeId) (i:TypeInfo) (z:Value) (size bytes:Nat) (ht:P.underlying t=some (.slice e)) (hi:P.info? e=some i) (hz:i.zero=some z)
  (hsize:i.size=size) (hby:i.bytes=bytes) (hzs:z.cells.size=size) (hsz:0 < size)
  (v:Value) (n:Nat) (xs:List Value) (hs:a.eval s=v) (hown:w.ownsRow base e size v n xs) (hv:InBlock v n)
  (xv:Value) (m:Nat) (news:List Value) (hx:a.eval x=xv) (hsrc:SrcOk w xv m size news)
  (h63:n+m≤maxLen) (hbytes:(n+m) * bytes≤140737488355328) (hbase:base≤w.heap.size)
  (h:∀ v' w',w'.ownsRow base e size v' (n+m) (xs ++ news)→w.grownBy w' v.ownBlock→InBlock v' (n+m)→K (a.put o.dst v') w'):o.wp P a w K Q:=by
 rcases hsrc with ⟨ad,c,rfl,hl,hnews,h1⟩|⟨c,rfl,rfl,rfl⟩
 ·refine wp_append_own w s x t ho base e i z size bytes ht hi hz hsize hby hzs hsz v n xs hs hown ad m c news hx hl hnews h1 h63 hbytes hbase fun v' w' h2 h3 h4=>h v' w' h2 h3 ?_
  rcases h2.2 with ⟨e1,_⟩|⟨g,cap,cur,e1,_⟩
  ·obtain ⟨g,c',e2⟩:=hv
   have:=(h4.1 e1).1
   rw [e2] at this
   cases this
  ·exact ⟨g,cap,e1⟩
 ·obtain ⟨g,c',rfl⟩:=hv
  have hroom:n≤c':=by
   rcases hown.2 with ⟨e1,_⟩|⟨g',cap,cur,e1,_,_,hc,_⟩
   ·cases e1
   ·injection e1 with _ _ e3
    omega
  have hr:=run_append_room_src (P:=P) w t t o.type e i ht hi g 0 n c' (.slice none 0 c) 0 [] (Src.ofNil w ht c) z0c (fun j hj=>absurd hj (Nat.not_lt_zero _)) (fun j hj=>absurd hj (Nat.not_lt_zero _))
  unfold Oper.wp execOp
  simp only [ho,resolve,invoke,builtin,Sem.run_bind,Sem.run_pure,Result.andThen_ok,List.map_toArray,List.map_cons,List.map_nil,hs,hx,hr]
  exact h _ w (by simpa using hown) (grownBy_self w _) ⟨g,c',rfl⟩
theorem wpList_append_row {ops:Array Oper} {rest:List Oper} {o:Oper} {a:Act} {Q:Exit→Act→World→Prop} (hgd:o.guard=none) (s x:Operand) (t:TypeId)
  (ho:o.op=.call { callee:=.builtin .append,args:=#[s,x],argTypes:=#[t,t] })
  (base:Nat) (e:TypeId) (i:TypeInfo) (z:Value) (size bytes:Nat) (ht:P.underlying t=some (.slice e)) (hi:P.info? e=some i) (hz:i.zero=some z)
  (hsize:i.size=size) (hby:i.bytes=bytes) (hzs:z.cells.size=size) (hsz:0 < size)
  (v:Value) (n:Nat) (xs:List Value) (hs:a.eval s=v) (hown:w.ownsRow base e size v n xs) (hv:InBlock v n)
  (xv:Value) (m:Nat) (news:List Value) (hx:a.eval x=xv) (hsrc:SrcOk w xv m size news)
  (h63:n+m≤maxLen) (hbytes:(n+m) * bytes≤140737488355328) (hbase:base≤w.heap.size)
  (h:∀ v' w',w'.ownsRow base e size v' (n+m) (xs ++ news)→w.grownBy w' v.ownBlock→InBlock v' (n+m)→wpList P ops Q rest (a.put o.dst v') w'):wpList P ops Q (o :: rest) a w:=
 wpList_plain hgd fun _ hK=>wp_append_row s x t ho base e i z size bytes ht hi hz hsize hby hzs hsz v n xs hs hown hv xv m news hx hsrc h63 hbytes hbase fun v' w' h2 h3 h4=>hK _ _ (h v' w' h2 h3 h4)
end
end Go.Proofs.YtfondldmmcmloaaGreatDoor
namespace Go.Proofs.YtfondldmmcmloaaGreatDoor
open Go.RowKit
def rowK (keys:Nat→ByteArray) (n:Nat):List Value:=(List.range n).map fun i=>.string (keys i)
theorem rowK_get {keys:Nat→ByteArray} {n i:Nat} (h:i < n):(rowK keys n)[i]? = some (.string (keys i)):=by
 simp [rowK,List.getElem?_map,List.getElem?_range h]
theorem addr_at {b off j:Nat}:(⟨b,off,none⟩:Addr).add j=⟨b,off+j,none⟩:=by unfold Addr.add;split <;> simp_all
def rowV (kids:Nat→VT):Nat→List Value
 | 0=>[]
 | n+1=>rowV kids n ++ (kids n).cells
theorem cells_len {T:VT} {w:World} (h:T.In w):T.cells.length=10:=by
 cases T with
 | nil=>exact h.elim
 | mk=>rfl
theorem rowV_len {kids:Nat→VT} {n:Nat} (h:∀ i,i < n→(kids i).cells.length=10):(rowV kids n).length=n * 10:=by
 induction n with
 | zero=>rfl
 | succ n ih=>simp only [rowV];rw [List.length_append,ih fun i hi=>h i z0c,h n z0c];omega
theorem rowV_get {kids:Nat→VT} {n i j:Nat} (h:∀ i,i < n→(kids i).cells.length=10) (hi:i < n) (hj:j < 10):(rowV kids n)[i * 10+j]? = (kids i).cells[j]? := by
 induction n with
 | zero=>omega
 | succ n ih=>
  have hl:=rowV_len (kids:=kids) (n:=n) fun i hi=>h i z0c
  simp only [rowV]
  by_cases c:i < n
  ·rw [List.getElem?_append_left z0c]
   exact ih (fun i hi=>h i z0c) c
  ·have:i=n:=by omega
   subst this
   rw [List.getElem?_append_right z0c,hl,Nat.add_sub_cancel_left]
theorem cells_one (T:VT):∀ u ∈ T.cells,u.oneCell'=true:=by
 cases T with
 | nil=>intro u hu;cases hu
 | mk=>
  intro u hu
  simp only [VT.cells,List.mem_cons,List.not_mem_nil,or_false] at hu
  rcases hu with rfl|rfl|rfl|rfl|rfl|rfl|rfl|rfl|rfl|rfl <;> rfl
theorem rowV_one (kids:Nat→VT) (n:Nat):∀ u ∈ rowV kids n,u.oneCell'=true:=by
 induction n with
 | zero=>intro u hu;cases hu
 | succ n ih=>
  intro u hu
  simp only [rowV,List.mem_append] at hu
  rcases hu with h|h
  ·exact ih u h
  ·exact cells_one _ u h
theorem srcV {w w':World} {aL:Option Addr} {nL:Nat} {kids:Nat→VT} (cL:Nat) (hL:nL=0∨∃ b off,aL=some ⟨b,off,none⟩∧b < w.heap.size∧∀ i,i < nL→∀ j,j < 10→w.cell? ⟨b,off+i * 10+j,none⟩=(kids i).cells[j]?) (hI:∀ i,i < nL→(kids i).In w) (hb:Below w.heap.size w w'):SrcOk w' (.slice aL nL cL) nL 10 (rowV kids nL):=by
 have h10:∀ i,i < nL→(kids i).cells.length=10:=fun i hi=>cells_len (hI i hi)
 cases aL with
 | none=>
  rcases hL with h|⟨b,off,h,-⟩
  ·subst h
   exact .inr ⟨cL,rfl,rfl,rfl⟩
  ·cases h
 | some ad=>
  refine .inl ⟨ad,cL,rfl,rowV_len h10,fun j u hu=>?_,rowV_one kids nL⟩
  have hj:j < nL * 10:=by
   have:=(List.getElem?_eq_some_iff.1 hu).1
   rwa [rowV_len h10] at this
  rcases hL with h|⟨b,off,h,h2,h3⟩
  ·omega
  ·injection h with h
   subst h
   have e:=rowV_get h10 (show j / 10 < nL by omega) (show j % 10 < 10 by omega)
   rw [show j / 10 * 10+j % 10=j by omega] at e
   rw [e] at hu
   rw [addr_at,hb.cell (p:=⟨b,off+j,none⟩) h2,show off+j=off+j / 10 * 10+j % 10 by omega,h3 _ z0c _ z0c]
   exact hu
theorem infoStr:(Tryz.prog.info? 9).map (fun i=>(i.zero,i.size,i.bytes))=some (some (.string ⟨#[]⟩),1,16):=by kernel_rfl
theorem infoVal:(Tryz.prog.info? 31).map (fun i=>(i.zero,i.size,i.bytes))=some (some (.agg #[.int .i64 0,.bool false,.int .u64 0,.int .u64 0,.int .u64 0,.int .u64 0,.int .u64 0,.string ⟨#[]⟩,.slice none 0 0,.slice none 0 0]),10,120):=by kernel_rfl
def keysB (keys:Nat→ByteArray) (n:Nat) (s:ByteArray) (i:Nat):ByteArray:=if i < n then keys i else s
theorem eqNil_some (g0 off n c:Nat) (w:World):(binOp .eql 28 (.slice (some ⟨g0,off,none⟩) n c) (.slice none 0 0)).run Tryz.prog w=.ok (.bool false) w:=by
 have h:=Tryz.underlying28
 unfold binOp
 simp only [go_sem]
 unfold Op.equal Op.maxDepth Op.equalIn
 simp only [Sem.run_bind,run_underlying h,Result.andThen_ok]
 simp [go_sem]
/-- **slices.Clone**: a row of the call's own -/
theorem CloneV_any (g0:Nat) (off:Nat) (nL cL:Nat) (kids:Nat→VT) (w:World) (hn:nL≤1000000)
  (HL:nL=0∨∃ b o,(some ⟨g0,off,none⟩:Option Addr)=some ⟨b,o,none⟩∧b < w.heap.size∧∀ i,i < nL→∀ j,j < 10→w.cell? ⟨b,o+i * 10+j,none⟩=(kids i).cells[j]?) (HI:∀ i,i < nL→(kids i).In w) :
  Calls Tryz.prog 37 #[.slice (some ⟨g0,off,none⟩) nL cL] w fun e w'=>∃ g c,e=.returned (.slice (some ⟨g,0,none⟩) nL c)∧Below w.heap.size w w'∧w'.ownsRow w.heap.size 31 10 (.slice (some ⟨g,0,none⟩) nL c) nL (rowV kids nL):=by
 obtain ⟨i0,hi,hz0,hz1,hz2⟩:=info_parts infoVal
 have HL:=Lib.hid HL
 have HI:=Lib.hid HI
 have own0:(w.alloc (.cells #[] 31)).ownsRow w.heap.size 31 10 (.slice (some ⟨w.heap.size,0,none⟩) 0 0) 0 []:=World.ownsRow_made w #[] 0 (Nat.le_refl _) z0e rfl
 have src0:SrcOk (w.alloc (.cells #[] 31)) (.slice (some ⟨g0,off,none⟩) nL cL) nL 10 (rowV kids nL):=srcV cL HL.out HI.out zb2
 have q1:=eqNil_some g0 off nL cL
 go_enter Tryz.func37,Tryz.ntmps37
 repeat any_goals (first|(at_builtin;refine wpList_append_row rfl (.tmp 5) (.tmp 6) 28 rfl w.heap.size 31 i0 (.agg #[.int .i64 0,.bool false,.int .u64 0,.int .u64 0,.int .u64 0,.int .u64 0,.int .u64 0,.string ⟨#[]⟩,.slice none 0 0,.slice none 0 0]) 10 120 Tryz.underlying28 hi hz0 hz1 hz2 rfl z0e _ _ _ rfl own0 ⟨_,_,rfl⟩ _ nL (rowV kids nL) rfl src0 z0k z0c z0f ?_;intro v1 w3 own1 hg1 ib1;have hb1':Below w.heap.size w w3:=(below_alloc (Below.refl _ _) _).grown hg1 z0f (fun k h=>(own0.lt k h).1);obtain ⟨g,c2,rfl⟩:=ib1)|go_skip|go_guarded|go_step|go_upon|(dsimp only []))
 rw [Nat.zero_add,List.nil_append] at own1
 exact bodyPost_ret (v:=.slice (some ⟨g,0,none⟩) nL c2) (by simp [results,Tryz.results37,go_sem]) rfl ⟨g,c2,rfl,hb1',own1⟩
end Go.Proofs.YtfondldmmcmloaaGreatDoor
