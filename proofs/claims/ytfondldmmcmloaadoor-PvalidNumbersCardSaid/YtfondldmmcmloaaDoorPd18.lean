/- PO, PQ, PR, App, RowV, PS, PT, PU. -/
import Derived.Deep.AppendSrc
import Derived.Test.YtfondldmmcmloaaDoorPd17
set_option maxRecDepth 1000000
set_option maxHeartbeats 8000000
namespace Go.Proofs.YtfondldmmcmloaaDoor
open Go Go.RowKit
theorem z18zs1 {p q:Prop} (h:q) (e:q→p:=by intro hq;(try simp only [Act.put,List.setIfInBounds_toArray,List.set_cons_zero,List.set_cons_succ]);exact hq):p:=e h
theorem z18zs2 {p q:Prop} (h:q) (e:q→p:=by intro hq;simp only [Act.put,List.setIfInBounds_toArray,List.set_cons_zero,List.set_cons_succ];exact hq):p:=e h
theorem z18zk1 {p:Prop} (h:p:=by
 by_cases c:nL=0
 ·obtain rfl:R=true:=by rw [hR,decide_eq_true c]
  subst c
  clear hR hrm
  go_enter Tryd.func41,Tryd.ntmps41
  repeat any_goals (first|go_skip|go_guarded|go_step|go_upon|(simp only [];done))
  exact bodyPost_ret (v:=.bool true) z0w rfl ⟨rfl,zb2⟩
 ·obtain rfl:R=false:=by rw [hR,decide_eq_false c]
  have c1:((nL:Int) == 0)=false:=by simpa using c
  clear hR hrm
  go_enter Tryd.func41,Tryd.ntmps41
  repeat any_goals (first|go_skip|go_guarded|go_step|go_upon|(simp only [];done))
  exact bodyPost_ret (v:=.bool false) z0w rfl ⟨rfl,zb2⟩):p:=h
theorem z18zk2 {p:Prop} (h:p:=by
 repeat (first|go_big_quiet_skip|(refine wpQuiet_skip (by rfl) ?_;refine z18zs2 ?_)|(go_big_quiet_want;go_big_quiet_op;go_big_quiet_on))
 (refine wpQuiet_nil ?_;intro w2 hw2;rw [HC.out] at hw2)
 repeat any_goals (first|go_skip|go_guarded|go_step|go_upon|(simp only [];done))
 exact bodyPost_ret (v:=.bool false) z0w rfl ⟨rfl,below_trans hW hw2⟩):p:=h
theorem z18zk3 {p:Prop} (h:p:=by
 (go_big_quiet_want;go_big_quiet_op;go_big_quiet_on)
 (go_big_quiet_want;go_big_quiet_op;go_big_quiet_on)
 go_big_quiet_skip
 go_big_quiet_skip
 go_big_quiet_skip
 go_big_quiet_skip
 go_big_quiet_skip
 go_big_quiet_skip
 (go_big_quiet_want;go_big_quiet_op;go_big_quiet_on)
 (go_big_quiet_want;go_big_quiet_op;go_big_quiet_on)
 (refine wpQuiet_nil ?_;intro w2 hw2;rw [HC.out] at hw2)
 repeat any_goals (first|go_skip|go_guarded|go_step|go_upon|(simp only [];done))
 exact bodyPost_ret (v:=.bool false) (by simp [results,Tryd.results9,go_sem]) rfl ⟨rfl,below_trans hW0 hw2⟩):p:=h
end Go.Proofs.YtfondldmmcmloaaDoor
namespace Go.Proofs.YtfondldmmcmloaaDoor
open Go.RowKit
def validB (M:Nat→PM) (n:Nat) (T:VT):Bool:=checkB M n && (decide (T.may=0) && (okT M n T).msg (M 0))
theorem check_pos {M:Nat→PM} {n:Nat} (h:checkB M n=true):0 < n:=by
 unfold checkB at h
 rw [Bool.and_eq_true] at h
 have:=of_decide_eq_true h.1
 omega
theorem checkI_eq {M:Nat→PM} {n:Nat}:(checkI M n == 0)=checkB M n:=by
 unfold checkI
 cases checkB M n <;> rfl
/-- **Valid** of the program -/
theorem PValidM_any (M:Nat→PM) (a:Option Addr) (n c:Nat) (T:VT) (w:World) (hL:PL w a n c M) (hin:T.In w) (hU:U8T w) (hT:Tab w) (hN:T.nodes < 4611686018427387904) :
  Calls Tryd.prog 9 #[.slice a n c,T.agg] w fun e w'=>e=.returned (.bool (validB M n T))∧Below w.heap.size w w':=by
 have HL:=Lib.hid hL
 have HIN:=Lib.hid hin
 obtain ⟨R,hR⟩:∃ R,R=validB M n T:=⟨_,rfl⟩
 rw [← hR]
 have HR:=Lib.hid hR
 obtain ⟨ci,hci⟩:∃ x,checkI M n=x:=⟨_,rfl⟩
 obtain ⟨mi,hmi⟩:∃ x,T.may=x:=⟨_,rfl⟩
 obtain ⟨mg,hmg⟩:∃ x,(okT M n T).msg (M 0)=x:=⟨_,rfl⟩
 have C1:=Lib.hid fun wx (hx:Below w.heap.size w wx)=>PCheck_any a n c M wx (HL.out.below hx)
 have C2:=Lib.hid fun wx (hx:Below w.heap.size w wx)=>MayV_any T wx (VT.In.below hx _ HIN.out) (Utf8Tabs_below hU hx) (hT.below hx) hN
 have C3:=Lib.hid fun (hc:checkB M n=true) (hr:T.right=true) wx (hx:Below w.heap.size w wx)=>(pvalid_all M a n c (check_types hc) T).2.2 0 wx (check_pos hc) (HL.out.below hx) (VT.In.below hx _ HIN.out) hr (hT.below hx)
 rw [hci] at C1
 rw [hmi] at C2
 rw [hmg] at C3
 have HCI:=Lib.hid (show (ci == 0)=checkB M n from by rw [← hci];exact checkI_eq)
 have HMI:=Lib.hid hmi
 have HV:=Lib.hid (show R=(checkB M n && (decide (mi=0) && mg)) from by rw [hR];unfold validB;rw [hmi,hmg])
 have q1:=hL.l
 have q2:=hL.lc
 simp only [maxLen] at q2
 clear hL hU hT hN hR hci hmi hmg
 cases T with
 | nil=>exact hin.elim
 | mk kind neg V bits text aL nL cL kids aK nK cK keys=>
  clear hin
  unfold VT.agg VT.cells at C2 C3 ⊢
  unfold PM.agg at C3
  go_enter Tryd.func9,Tryd.ntmps9
  go_upto_region 1 with fail
  have V0:=Lib.hid (vbx_new w 35 kind neg V bits text aL nL cL aK nK cK)
  have hW0:=below_alloc (Below.refl w.heap.size w) (.cells #[.int .i64 kind,.bool neg,.int .u64 (lm V 0:Nat),.int .u64 (lm V 1:Nat),.int .u64 (lm V 2:Nat),.int .u64 (lm V 3:Nat),.int .u64 (bits:Nat),.string text,.slice aL nL cL,.slice aK nK cK] 35)
  generalize w.alloc (.cells #[.int .i64 kind,.bool neg,.int .u64 (lm V 0:Nat),.int .u64 (lm V 1:Nat),.int .u64 (lm V 2:Nat),.int .u64 (lm V 3:Nat),.int .u64 (bits:Nat),.string text,.slice aL nL cL,.slice aK nK cK] 35)=w0 at *
  obtain ⟨B0,hB0⟩:∃ B,B=w.heap.size:=⟨_,rfl⟩
  rw [← hB0] at V0 ⊢
  have hB0':=Lib.hid hB0
  clear hB0
  by_cases c1:checkB M n=true
  ·have e1:(ci == 0)=true:=by rw [HCI.out];exact c1
   have HN0:=check_pos c1
   obtain ⟨b,off,ea,-,hm4,-⟩:=m_lit HL.out HN0 hW0
   subst ea
   have M0:=Lib.hid (show ML w0 b (off+0 * 4) (M 0) from ⟨⟨hm4.all.1,hm4.all.2.1,hm4.all.2.2.1,hm4.all.2.2.2,trivial⟩⟩)
   rw [show off+0 * 4=off from by omega] at M0
   have i1:(0:Int) < (n:Int):=by omega
   by_cases c2:mi=0
   ·have e2:(mi == 0)=true:=beq_iff_eq.2 c2
    have hr:=(VT.may_zero.1 (HMI.out.trans c2)).2.2.2
    have C4:=Lib.hid (C3.out c1 hr)
    obtain rfl:R=mg:=by rw [HV.out,c1,decide_eq_true c2];rfl
    clear c2 hr hm4
    (obtain ⟨C_,hC⟩:∃ C:World→Prop,C=fun w'=>Below (w0).heap.size (w0) w':=⟨_,rfl⟩;have HC:=Lib.hid hC;have hne:∀ p:Prop,(∀ w1:World,C_ w1→p)=p:=fun p=>propext ⟨fun h=>h (w0) z0i,fun h _ _=>h⟩;clear hC;refine wp_region_quiet_cls (C:=C_) z0a z0a z0d ?_)
    (go_big_quiet_want;go_big_quiet_op;go_big_quiet_on)
    (go_big_quiet_want;go_big_quiet_op;refine ⟨.int .i64 ci,fun w1 hw1=>?_,?_⟩;(rw [HC.out] at hw1 ⊢;with_reducible refine (C1.out _ (below_trans hW0 hw1)).mono ?_;rintro e w4 ⟨rfl,hb4⟩;exact ⟨rfl,below_trans hw1 hb4⟩);go_big_quiet_on)
    (go_big_quiet_want;go_big_quiet_op;go_big_quiet_on)
    (go_big_quiet_want;go_big_quiet_op;go_big_quiet_on)
    (go_big_quiet_want;refine ⟨.agg #[.int .i64 kind,.bool neg,.int .u64 (lm V 0:Nat),.int .u64 (lm V 1:Nat),.int .u64 (lm V 2:Nat),.int .u64 (lm V 3:Nat),.int .u64 (bits:Nat),.string text,.slice aL nL cL,.slice aK nK cK],fun w1 hw1=>?_,?_⟩;(rw [HC.out] at hw1;obtain ⟨_,_,_,_,_⟩:=(V0.out.below hw1).all;simp [Oper.quietAt,go_sem, *]);refine z18zs1 ?_;go_big_quiet_on)
    (go_big_quiet_want;go_big_quiet_op;refine ⟨.int .i64 mi,fun w1 hw1=>?_,?_⟩;(rw [HC.out] at hw1 ⊢;with_reducible refine (C2.out _ (below_trans hW0 hw1)).mono ?_;rintro e w4 ⟨rfl,hb4⟩;exact ⟨rfl,below_trans hw1 hb4⟩);go_big_quiet_on)
    (go_big_quiet_want;go_big_quiet_op;go_big_quiet_on)
    (go_big_quiet_want;go_big_quiet_op;go_big_quiet_on)
    (go_big_quiet_want;go_big_quiet_op;go_big_quiet_on)
    (go_big_quiet_want;go_big_quiet_op;go_big_quiet_on)
    (go_big_quiet_want;go_big_quiet_op;go_big_quiet_on)
    (go_big_quiet_want;go_big_quiet_op;go_big_quiet_on)
    (go_big_quiet_want;refine ⟨.agg #[.string (M 0).name,.slice (M 0).aF (M 0).nF (M 0).cF,.slice (M 0).aN (M 0).nN (M 0).cN,.slice (M 0).aS (M 0).nS (M 0).cS],fun w1 hw1=>?_,?_⟩;(rw [HC.out] at hw1;obtain ⟨_,_,_,_,_⟩:=(M0.out.below hw1).all;simp [Oper.quietAt,go_sem, *]);refine z18zs1 ?_;go_big_quiet_on)
    (go_big_quiet_want;refine ⟨.agg #[.int .i64 kind,.bool neg,.int .u64 (lm V 0:Nat),.int .u64 (lm V 1:Nat),.int .u64 (lm V 2:Nat),.int .u64 (lm V 3:Nat),.int .u64 (bits:Nat),.string text,.slice aL nL cL,.slice aK nK cK],fun w1 hw1=>?_,?_⟩;(rw [HC.out] at hw1;obtain ⟨_,_,_,_,_⟩:=(V0.out.below hw1).all;simp [Oper.quietAt,go_sem, *]);refine z18zs1 ?_;go_big_quiet_on)
    (go_big_quiet_want;go_big_quiet_op;refine ⟨.bool R,fun w1 hw1=>?_,?_⟩;(rw [HC.out] at hw1 ⊢;with_reducible refine (C4.out _ (below_trans hW0 hw1)).mono ?_;rintro e w4 ⟨rfl,hb4⟩;exact ⟨rfl,below_trans hw1 hb4⟩);go_big_quiet_on)
    (go_big_quiet_want;go_big_quiet_op;go_big_quiet_on)
    (go_big_quiet_want;go_big_quiet_op;go_big_quiet_on)
    (refine wpQuiet_nil ?_;intro w2 hw2;rw [HC.out] at hw2)
    repeat any_goals (first|go_skip|go_guarded|go_step|go_upon|(simp only [];done))
    exact bodyPost_ret (v:=.bool R) (by simp [results,Tryd.results9,go_sem]) rfl ⟨rfl,below_trans hW0 hw2⟩
   ·have e2:(mi == 0)=false:=beq_false_of_ne c2
    obtain rfl:R=false:=by rw [HV.out,decide_eq_false c2,Bool.false_and,Bool.and_false]
    clear c2 hm4
    (obtain ⟨C_,hC⟩:∃ C:World→Prop,C=fun w'=>Below (w0).heap.size (w0) w':=⟨_,rfl⟩;have HC:=Lib.hid hC;have hne:∀ p:Prop,(∀ w1:World,C_ w1→p)=p:=fun p=>propext ⟨fun h=>h (w0) z0i,fun h _ _=>h⟩;clear hC;refine wp_region_quiet_cls (C:=C_) z0a z0a z0d ?_)
    (go_big_quiet_want;go_big_quiet_op;go_big_quiet_on)
    (go_big_quiet_want;go_big_quiet_op;refine ⟨.int .i64 ci,fun w1 hw1=>?_,?_⟩;(rw [HC.out] at hw1 ⊢;with_reducible refine (C1.out _ (below_trans hW0 hw1)).mono ?_;rintro e w4 ⟨rfl,hb4⟩;exact ⟨rfl,below_trans hw1 hb4⟩);go_big_quiet_on)
    (go_big_quiet_want;go_big_quiet_op;go_big_quiet_on)
    (go_big_quiet_want;go_big_quiet_op;go_big_quiet_on)
    (go_big_quiet_want;refine ⟨.agg #[.int .i64 kind,.bool neg,.int .u64 (lm V 0:Nat),.int .u64 (lm V 1:Nat),.int .u64 (lm V 2:Nat),.int .u64 (lm V 3:Nat),.int .u64 (bits:Nat),.string text,.slice aL nL cL,.slice aK nK cK],fun w1 hw1=>?_,?_⟩;(rw [HC.out] at hw1;obtain ⟨_,_,_,_,_⟩:=(V0.out.below hw1).all;simp [Oper.quietAt,go_sem, *]);refine z18zs1 ?_;go_big_quiet_on)
    (go_big_quiet_want;go_big_quiet_op;refine ⟨.int .i64 mi,fun w1 hw1=>?_,?_⟩;(rw [HC.out] at hw1 ⊢;with_reducible refine (C2.out _ (below_trans hW0 hw1)).mono ?_;rintro e w4 ⟨rfl,hb4⟩;exact ⟨rfl,below_trans hw1 hb4⟩);go_big_quiet_on)
    (go_big_quiet_want;go_big_quiet_op;go_big_quiet_on)
    exact z18zk3
  ·have e1:(ci == 0)=false:=by rw [HCI.out];exact Bool.eq_false_iff.2 c1
   obtain rfl:R=false:=by rw [HV.out,Bool.eq_false_iff.2 c1];rfl
   (obtain ⟨C_,hC⟩:∃ C:World→Prop,C=fun w'=>Below (w0).heap.size (w0) w':=⟨_,rfl⟩;have HC:=Lib.hid hC;have hne:∀ p:Prop,(∀ w1:World,C_ w1→p)=p:=fun p=>propext ⟨fun h=>h (w0) z0i,fun h _ _=>h⟩;clear hC;refine wp_region_quiet_cls (C:=C_) z0a z0a z0d ?_)
   (go_big_quiet_want;go_big_quiet_op;go_big_quiet_on)
   (go_big_quiet_want;go_big_quiet_op;refine ⟨.int .i64 ci,fun w1 hw1=>?_,?_⟩;(rw [HC.out] at hw1 ⊢;with_reducible refine (C1.out _ (below_trans hW0 hw1)).mono ?_;rintro e w4 ⟨rfl,hb4⟩;exact ⟨rfl,below_trans hw1 hb4⟩);go_big_quiet_on)
   (go_big_quiet_want;go_big_quiet_op;go_big_quiet_on)
   (go_big_quiet_want;go_big_quiet_op;go_big_quiet_on)
   go_big_quiet_skip
   go_big_quiet_skip
   go_big_quiet_skip
   exact z18zk3
def leftB (f:PF) (kind:Int) (neg:Bool) (V bits:Nat) (text:ByteArray) (nL:Nat):Bool:=
 if f.rep || f.map then decide (nL=0) else !f.opt && scalarB f.type && !decide (kind=4) && decide (neg=false∧V=0∧bits=0∧text=⟨#[]⟩)
theorem SxF.all {w:World} {B:Nat} {a0 a1 a2 a3 a4 a5:Value} (h:SxF w B a0 a1 a2 a3 a4 a5):w.cell? ⟨B,0,none⟩=some a0∧w.cell? ⟨B,1,none⟩=some a1∧w.cell? ⟨B,2,none⟩=some a2∧w.cell? ⟨B,3,none⟩=some a3∧w.cell? ⟨B,4,none⟩=some a4∧w.cell? ⟨B,5,none⟩=some a5:=h.c
theorem lm_none (j:Nat):((lm 0 j:Nat):Int)=0:=by simp [lm]
theorem PEmpty_row (nm ty:ByteArray) (num:Int) (o r m:Bool) (kind:Int) (neg:Bool) (V bits:Nat) (text:ByteArray) (aL:Option Addr) (nL cL:Nat) (aK:Option Addr) (nK cK:Nat) (w:World) (hl:nL≤cL) (hrm:(r || m)=true) :
  Calls Tryd.prog 41 #[.agg #[.string nm,.string ty,.int .i64 num,.bool o,.bool r,.bool m],.agg #[.int .i64 kind,.bool neg,.int .u64 (lm V 0:Nat),.int .u64 (lm V 1:Nat),.int .u64 (lm V 2:Nat),.int .u64 (lm V 3:Nat),.int .u64 (bits:Nat),.string text,.slice aL nL cL,.slice aK nK cK]] w fun e w'=>e=.returned (.bool (decide (nL=0)))∧Below w.heap.size w w':=by
 obtain ⟨R,hR⟩:∃ R,R=decide (nL=0):=⟨_,rfl⟩
 rw [← hR]
 cases r with
 | true=>
  exact z18zk1
 | false=>
  obtain rfl:m=true:=by simpa using hrm
  exact z18zk1
theorem PEmpty_sc (nm ty:ByteArray) (num:Int) (o:Bool) (kind:Int) (neg:Bool) (V bits:Nat) (text:ByteArray) (aL:Option Addr) (nL cL:Nat) (aK:Option Addr) (nK cK:Nat) (w:World) (x d:Bool) (R:Bool)
  (C1:Hid (∀ wr:World,Calls Tryd.prog 31 #[.string ty] wr fun e w'=>e=.returned (.bool x)∧Below wr.heap.size wr w'))
  (hd:eqSc kind neg (lm V 0:Nat) (lm V 1:Nat) (lm V 2:Nat) (lm V 3:Nat) (bits:Nat) text kind false 0 0 0 0 0 ⟨#[]⟩=d) (HR:Hid (R=(!o && x && !decide (kind=4) && d))) :
  Calls Tryd.prog 41 #[.agg #[.string nm,.string ty,.int .i64 num,.bool o,.bool false,.bool false],.agg #[.int .i64 kind,.bool neg,.int .u64 (lm V 0:Nat),.int .u64 (lm V 1:Nat),.int .u64 (lm V 2:Nat),.int .u64 (lm V 3:Nat),.int .u64 (bits:Nat),.string text,.slice aL nL cL,.slice aK nK cK]] w fun e w'=>e=.returned (.bool R)∧Below w.heap.size w w':=by
 go_enter Tryd.func41,Tryd.ntmps41
 go_upto_region 15 with fail
 have hW:Below w.heap.size w ((w.alloc (.cells #[.string nm,.string ty,.int .i64 num,.bool o,.bool false,.bool false] 70)).alloc (.cells #[.int .i64 kind,.bool neg,.int .u64 (lm V 0:Nat),.int .u64 (lm V 1:Nat),.int .u64 (lm V 2:Nat),.int .u64 (lm V 3:Nat),.int .u64 (bits:Nat),.string text,.slice aL nL cL,.slice aK nK cK] 35)):=zb2
 have S:=Lib.hid ((sxf_new w 70 (.string nm) (.string ty) (.int .i64 num) (.bool o) (.bool false) (.bool false)).below (show Below (w.alloc (.cells #[.string nm,.string ty,.int .i64 num,.bool o,.bool false,.bool false] 70)).heap.size (w.alloc (.cells #[.string nm,.string ty,.int .i64 num,.bool o,.bool false,.bool false] 70)) ((w.alloc (.cells #[.string nm,.string ty,.int .i64 num,.bool o,.bool false,.bool false] 70)).alloc (.cells #[.int .i64 kind,.bool neg,.int .u64 (lm V 0:Nat),.int .u64 (lm V 1:Nat),.int .u64 (lm V 2:Nat),.int .u64 (lm V 3:Nat),.int .u64 (bits:Nat),.string text,.slice aL nL cL,.slice aK nK cK] 35)) from zb2))
 have X:=Lib.hid (vbx_new (w.alloc (.cells #[.string nm,.string ty,.int .i64 num,.bool o,.bool false,.bool false] 70)) 35 kind neg V bits text aL nL cL aK nK cK)
 rw [show (w.alloc (.cells #[.string nm,.string ty,.int .i64 num,.bool o,.bool false,.bool false] 70)).heap.size=w.heap.size+1 by simp [go_sem]] at X
 generalize ((w.alloc (.cells #[.string nm,.string ty,.int .i64 num,.bool o,.bool false,.bool false] 70)).alloc (.cells #[.int .i64 kind,.bool neg,.int .u64 (lm V 0:Nat),.int .u64 (lm V 1:Nat),.int .u64 (lm V 2:Nat),.int .u64 (lm V 3:Nat),.int .u64 (bits:Nat),.string text,.slice aL nL cL,.slice aK nK cK] 35))=W at *
 cases o with
 | true=>
  obtain rfl:R=false:=by rw [HR.out];rfl
  (obtain ⟨C_,hC⟩:∃ C:World→Prop,C=fun w'=>Below (W).heap.size (W) w':=⟨_,rfl⟩;have HC:=Lib.hid hC;have hne:∀ p:Prop,(∀ w1:World,C_ w1→p)=p:=fun p=>propext ⟨fun h=>h (W) z0i,fun h _ _=>h⟩;clear hC;refine wp_region_quiet_cls (C:=C_) z0a z0a z0d ?_)
  (go_big_quiet_want;go_big_quiet_op;go_big_quiet_on)
  (go_big_quiet_want;refine ⟨.bool true,fun w1 hw1=>?_,?_⟩;(rw [HC.out] at hw1;obtain ⟨_,_,_,_,_⟩:=(S.out.below hw1).all;simp [Oper.quietAt,go_sem, *]);refine z18zs1 ?_;go_big_quiet_on)
  exact z18zk2
 | false=>
  cases x with
  | false=>
   obtain rfl:R=false:=by rw [HR.out];rfl
   (obtain ⟨C_,hC⟩:∃ C:World→Prop,C=fun w'=>Below (W).heap.size (W) w':=⟨_,rfl⟩;have HC:=Lib.hid hC;have hne:∀ p:Prop,(∀ w1:World,C_ w1→p)=p:=fun p=>propext ⟨fun h=>h (W) z0i,fun h _ _=>h⟩;clear hC;refine wp_region_quiet_cls (C:=C_) z0a z0a z0d ?_)
   (go_big_quiet_want;go_big_quiet_op;go_big_quiet_on)
   (go_big_quiet_want;refine ⟨.bool false,fun w1 hw1=>?_,?_⟩;(rw [HC.out] at hw1;obtain ⟨_,_,_,_,_⟩:=(S.out.below hw1).all;simp [Oper.quietAt,go_sem, *]);refine z18zs1 ?_;go_big_quiet_on)
   (go_big_quiet_want;go_big_quiet_op;go_big_quiet_on)
   (go_big_quiet_want;go_big_quiet_op;go_big_quiet_on)
   (go_big_quiet_want;go_big_quiet_op;go_big_quiet_on)
   (go_big_quiet_want;refine ⟨.string ty,fun w1 hw1=>?_,?_⟩;(rw [HC.out] at hw1;obtain ⟨_,_,_,_,_⟩:=(S.out.below hw1).all;simp [Oper.quietAt,go_sem, *]);refine z18zs1 ?_;go_big_quiet_on)
   (go_big_quiet_want;go_big_quiet_op;refine ⟨.bool false,fun w1 hw1=>?_,?_⟩;(rw [HC.out] at hw1 ⊢;with_reducible refine (C1.out _).mono ?_;rintro e w4 ⟨rfl,hb4⟩;exact ⟨rfl,below_trans hw1 hb4⟩);go_big_quiet_on)
   exact z18zk2
  | true=>
   by_cases c:kind=4
   ·obtain rfl:R=false:=by rw [HR.out,decide_eq_true c];rfl
    subst c
    (obtain ⟨C_,hC⟩:∃ C:World→Prop,C=fun w'=>Below (W).heap.size (W) w':=⟨_,rfl⟩;have HC:=Lib.hid hC;have hne:∀ p:Prop,(∀ w1:World,C_ w1→p)=p:=fun p=>propext ⟨fun h=>h (W) z0i,fun h _ _=>h⟩;clear hC;refine wp_region_quiet_cls (C:=C_) z0a z0a z0d ?_)
    (go_big_quiet_want;go_big_quiet_op;go_big_quiet_on)
    (go_big_quiet_want;refine ⟨.bool false,fun w1 hw1=>?_,?_⟩;(rw [HC.out] at hw1;obtain ⟨_,_,_,_,_⟩:=(S.out.below hw1).all;simp [Oper.quietAt,go_sem, *]);refine z18zs1 ?_;go_big_quiet_on)
    (go_big_quiet_want;go_big_quiet_op;go_big_quiet_on)
    (go_big_quiet_want;go_big_quiet_op;go_big_quiet_on)
    (go_big_quiet_want;go_big_quiet_op;go_big_quiet_on)
    (go_big_quiet_want;refine ⟨.string ty,fun w1 hw1=>?_,?_⟩;(rw [HC.out] at hw1;obtain ⟨_,_,_,_,_⟩:=(S.out.below hw1).all;simp [Oper.quietAt,go_sem, *]);refine z18zs1 ?_;go_big_quiet_on)
    (go_big_quiet_want;go_big_quiet_op;refine ⟨.bool true,fun w1 hw1=>?_,?_⟩;(rw [HC.out] at hw1 ⊢;with_reducible refine (C1.out _).mono ?_;rintro e w4 ⟨rfl,hb4⟩;exact ⟨rfl,below_trans hw1 hb4⟩);go_big_quiet_on)
    (go_big_quiet_want;go_big_quiet_op;go_big_quiet_on)
    (go_big_quiet_want;go_big_quiet_op;go_big_quiet_on)
    (go_big_quiet_want;go_big_quiet_op;go_big_quiet_on)
    (go_big_quiet_want;refine ⟨.int .i64 4,fun w1 hw1=>?_,?_⟩;(rw [HC.out] at hw1;obtain ⟨_,_,_,_,_⟩:=(X.out.below hw1).all;simp [Oper.quietAt,go_sem, *]);refine z18zs1 ?_;go_big_quiet_on)
    exact z18zk2
   ·obtain rfl:R=d:=by rw [HR.out,decide_eq_false c];simp
    have c1:(kind == 4)=false:=beq_false_of_ne c
    have c2:(kind != 4)=true:=bne_iff_ne.2 c
    clear HR
    (obtain ⟨C_,hC⟩:∃ C:World→Prop,C=fun w'=>Below (W).heap.size (W) w':=⟨_,rfl⟩;have HC:=Lib.hid hC;have hne:∀ p:Prop,(∀ w1:World,C_ w1→p)=p:=fun p=>propext ⟨fun h=>h (W) z0i,fun h _ _=>h⟩;clear hC;refine wp_region_quiet_cls (C:=C_) z0a z0a z0d ?_)
    (go_big_quiet_want;go_big_quiet_op;go_big_quiet_on)
    (go_big_quiet_want;refine ⟨.bool false,fun w1 hw1=>?_,?_⟩;(rw [HC.out] at hw1;obtain ⟨_,_,_,_,_⟩:=(S.out.below hw1).all;simp [Oper.quietAt,go_sem, *]);refine z18zs1 ?_;go_big_quiet_on)
    (go_big_quiet_want;go_big_quiet_op;go_big_quiet_on)
    (go_big_quiet_want;go_big_quiet_op;go_big_quiet_on)
    (go_big_quiet_want;go_big_quiet_op;go_big_quiet_on)
    (go_big_quiet_want;refine ⟨.string ty,fun w1 hw1=>?_,?_⟩;(rw [HC.out] at hw1;obtain ⟨_,_,_,_,_⟩:=(S.out.below hw1).all;simp [Oper.quietAt,go_sem, *]);refine z18zs1 ?_;go_big_quiet_on)
    (go_big_quiet_want;go_big_quiet_op;refine ⟨.bool true,fun w1 hw1=>?_,?_⟩;(rw [HC.out] at hw1 ⊢;with_reducible refine (C1.out _).mono ?_;rintro e w4 ⟨rfl,hb4⟩;exact ⟨rfl,below_trans hw1 hb4⟩);go_big_quiet_on)
    (go_big_quiet_want;go_big_quiet_op;go_big_quiet_on)
    (go_big_quiet_want;go_big_quiet_op;go_big_quiet_on)
    (go_big_quiet_want;go_big_quiet_op;go_big_quiet_on)
    (go_big_quiet_want;refine ⟨.int .i64 kind,fun w1 hw1=>?_,?_⟩;(rw [HC.out] at hw1;obtain ⟨_,_,_,_,_⟩:=(X.out.below hw1).all;simp [Oper.quietAt,go_sem, *]);refine z18zs1 ?_;go_big_quiet_on)
    (go_big_quiet_want;refine ⟨.bool true,fun w1 hw1=>?_,?_⟩;(rw [HC.out] at hw1;obtain ⟨_,_,_,_,_⟩:=(X.out.below hw1).all;simp [Oper.quietAt,go_sem, *]);refine z18zs1 ?_;go_big_quiet_on)
    (go_big_quiet_want;go_big_quiet_op;go_big_quiet_on)
    (go_big_quiet_want;go_big_quiet_op;go_big_quiet_on)
    (go_big_quiet_want;refine ⟨.agg #[.int .i64 kind,.bool neg,.int .u64 (lm V 0:Nat),.int .u64 (lm V 1:Nat),.int .u64 (lm V 2:Nat),.int .u64 (lm V 3:Nat),.int .u64 (bits:Nat),.string text,.slice aL nL cL,.slice aK nK cK],fun w1 hw1=>?_,?_⟩;(rw [HC.out] at hw1;obtain ⟨_,_,_,_,_⟩:=(X.out.below hw1).all;simp [Oper.quietAt,go_sem, *]);refine z18zs1 ?_;go_big_quiet_on)
    (go_big_quiet_want;go_big_quiet_op;refine ⟨.agg #[.int .i64 kind,.bool neg,.int .u64 (lm V 0:Nat),.int .u64 (lm V 1:Nat),.int .u64 (lm V 2:Nat),.int .u64 (lm V 3:Nat),.int .u64 (bits:Nat),.string text],fun w1 hw1=>?_,?_⟩;(rw [HC.out] at hw1 ⊢;with_reducible refine (VOf_any _ _ _ _ _ _ _ _ _ _ _ _).mono ?_;rintro e w4 ⟨rfl,hb4⟩;exact ⟨rfl,below_trans hw1 hb4⟩);go_big_quiet_on)
    (go_big_quiet_want;go_big_quiet_op;go_big_quiet_on)
    (go_big_quiet_want;refine ⟨.int .i64 kind,fun w1 hw1=>?_,?_⟩;(rw [HC.out] at hw1;obtain ⟨_,_,_,_,_⟩:=(X.out.below hw1).all;simp [Oper.quietAt,go_sem, *]);refine z18zs1 ?_;go_big_quiet_on)
    (go_big_quiet_want;go_big_quiet_op;go_big_quiet_on)
    (go_big_quiet_want;refine ⟨.bool R,fun w1 hw1=>?_,?_⟩;(rw [HC.out] at hw1;obtain ⟨_,_,_,_,_⟩:=(X.out.below hw1).all;simp [Oper.quietAt,go_sem, *]);refine z18zs1 ?_;go_big_quiet_on)
    repeat (first|go_big_quiet_skip|(refine wpQuiet_skip (by rfl) ?_;refine z18zs2 ?_)|(go_big_quiet_want;go_big_quiet_op;go_big_quiet_on))
    (refine wpQuiet_nil ?_;intro w2 hw2;rw [HC.out] at hw2)
    repeat any_goals (first|go_skip|go_guarded|go_step|go_upon|(simp only [];done))
    exact bodyPost_ret (v:=.bool R) z0w rfl ⟨rfl,below_trans hW hw2⟩
theorem PEmpty_any (g:PF) (kind:Int) (neg:Bool) (V bits:Nat) (text:ByteArray) (aL:Option Addr) (nL cL:Nat) (aK:Option Addr) (nK cK:Nat) (hV:V < 2 ^ 256) (hl:nL≤cL) (w:World) :
  Calls Tryd.prog 41 #[g.agg,.agg #[.int .i64 kind,.bool neg,.int .u64 (lm V 0:Nat),.int .u64 (lm V 1:Nat),.int .u64 (lm V 2:Nat),.int .u64 (lm V 3:Nat),.int .u64 (bits:Nat),.string text,.slice aL nL cL,.slice aK nK cK]] w fun e w'=>e=.returned (.bool (leftB g kind neg V bits text nL))∧Below w.heap.size w w':=by
 obtain ⟨nm,ty,num,o,r,m⟩:=g
 unfold PF.agg leftB
 by_cases c:(r || m)=true
 ·rw [if_pos c]
  exact PEmpty_row nm ty num o r m kind neg V bits text aL nL cL aK nK cK w hl c
 ·rw [if_neg c]
  obtain ⟨rfl,rfl⟩:r=false∧m=false:=by simpa using c
  have e:=eqSc_lm (k:=kind) (s:=neg) (s':=false) (V:=V) (U:=0) (b:=bits) (b':=0) (t:=text) (t':=⟨#[]⟩) hV z0b
  simp only [lm_none] at e
  exact PEmpty_sc nm ty num o kind neg V bits text aL nL cL aK nK cK w (scalarB ty) _ _ (Lib.hid fun wr=>(PScalar_any ty wr).mono (by rintro e w1 ⟨rfl,rfl⟩;exact ⟨rfl,Below.refl _ _⟩)) e (Lib.hid rfl)
open Go
def SrcOk (w:World) (x:Value) (m size:Nat) (news:List Value):Prop:=
 (∃ ad c,x=.slice (some ad) m c∧news.length=m * size∧(∀ j u,news[j]? = some u→w.cell? (ad.add j)=some u)∧∀ u ∈ news,u.oneCell'=true)∨(∃ c,x=.slice none 0 c∧m=0∧news=[])
def InBlock (v:Value) (n:Nat):Prop:=∃ g c,v=.slice (some ⟨g,0,none⟩) n c
section
variable {P:Program} {w:World}
theorem grownBy_self (w:World) (row:Option Nat):w.grownBy w row:=⟨rfl,rfl,rfl,Nat.le_refl _,fun _ _ _=>rfl⟩
theorem wp_append_row {o:Oper} {a:Act} {K:Act→World→Prop} {Q:Exit→Act→World→Prop} (s x:Operand) (t:TypeId)
  (ho:o.op=.call { callee:=.builtin .append,args:=#[s,x],argTypes:=#[t,t] })
  (base:Nat) (e:TypeId) (i:TypeInfo) (z:Value) (size bytes:Nat) (ht:P.underlying t=some (.slice e)) (hi:P.info? e=some i) (hz:i.zero=some z)
  (hsize:i.size=size) (hby:i.bytes=bytes) (hzs:z.cells.size=size) (hsz:0 < size)
  (v:Value) (n:Nat) (xs:List Value) (hs:a.eval s=v) (hown:w.ownsRow base e size v n xs) (hv:InBlock v n)
  (xv:Value) (m:Nat) (news:List Value) (hx:a.eval x=xv) (hsrc:SrcOk w xv m size news)
  (h63:n+m≤maxLen) (hbytes:(n+m) * bytes≤140737488355328) (hbase:base≤w.heap.size)
  (h:∀ v' w',w'.ownsRow base e size v' (n+m) (xs ++ news)→w.grownBy w' v.ownBlock→InBlock v' (n+m)→K (a.put o.dst v') w'):o.wp P a w K Q:=by
 rcases hsrc with ⟨ad,c,rfl,hl,hnews,h1⟩|⟨c,rfl,rfl,rfl⟩
 ·refine wp_append_own w s x t ho base e i z size bytes ht hi hz hsize hby hzs hsz v n xs hs hown ad m c news hx hl hnews h1 h63 hbytes hbase fun v' w' h2 h3 h4=>h v' w' h2 h3 ?_
  rcases h2.2 with ⟨e1,_⟩|⟨g,cap,cur,e1,_⟩
  ·obtain ⟨g,c',e2⟩:=hv
   have:=(h4.1 e1).1
   rw [e2] at this
   cases this
  ·exact ⟨g,cap,e1⟩
 ·obtain ⟨g,c',rfl⟩:=hv
  have hroom:n≤c':=by
   rcases hown.2 with ⟨e1,_⟩|⟨g',cap,cur,e1,_,_,hc,_⟩
   ·cases e1
   ·injection e1 with _ _ e3
    omega
  have hr:=run_append_room_src (P:=P) w t t o.type e i ht hi g 0 n c' (.slice none 0 c) 0 [] (Src.ofNil w ht c) z0b (fun j hj=>absurd hj (Nat.not_lt_zero _)) (fun j hj=>absurd hj (Nat.not_lt_zero _))
  unfold Oper.wp execOp
  simp only [ho,resolve,invoke,builtin,Sem.run_bind,Sem.run_pure,Result.andThen_ok,List.map_toArray,List.map_cons,List.map_nil,hs,hx,hr]
  exact h _ w (by simpa using hown) (grownBy_self w _) ⟨g,c',rfl⟩
theorem wpList_append_row {ops:Array Oper} {rest:List Oper} {o:Oper} {a:Act} {Q:Exit→Act→World→Prop} (hgd:o.guard=none) (s x:Operand) (t:TypeId)
  (ho:o.op=.call { callee:=.builtin .append,args:=#[s,x],argTypes:=#[t,t] })
  (base:Nat) (e:TypeId) (i:TypeInfo) (z:Value) (size bytes:Nat) (ht:P.underlying t=some (.slice e)) (hi:P.info? e=some i) (hz:i.zero=some z)
  (hsize:i.size=size) (hby:i.bytes=bytes) (hzs:z.cells.size=size) (hsz:0 < size)
  (v:Value) (n:Nat) (xs:List Value) (hs:a.eval s=v) (hown:w.ownsRow base e size v n xs) (hv:InBlock v n)
  (xv:Value) (m:Nat) (news:List Value) (hx:a.eval x=xv) (hsrc:SrcOk w xv m size news)
  (h63:n+m≤maxLen) (hbytes:(n+m) * bytes≤140737488355328) (hbase:base≤w.heap.size)
  (h:∀ v' w',w'.ownsRow base e size v' (n+m) (xs ++ news)→w.grownBy w' v.ownBlock→InBlock v' (n+m)→wpList P ops Q rest (a.put o.dst v') w'):wpList P ops Q (o :: rest) a w:=
 wpList_plain hgd fun _ hK=>wp_append_row s x t ho base e i z size bytes ht hi hz hsize hby hzs hsz v n xs hs hown hv xv m news hx hsrc h63 hbytes hbase fun v' w' h2 h3 h4=>hK _ _ (h v' w' h2 h3 h4)
end
end Go.Proofs.YtfondldmmcmloaaDoor
namespace Go.Proofs.YtfondldmmcmloaaDoor
open Go.RowKit
def rowK (keys:Nat→ByteArray) (n:Nat):List Value:=(List.range n).map fun i=>.string (keys i)
theorem rowK_get {keys:Nat→ByteArray} {n i:Nat} (h:i < n):(rowK keys n)[i]? = some (.string (keys i)):=by
 simp [rowK,List.getElem?_map,List.getElem?_range h]
theorem addr_at {b off j:Nat}:(⟨b,off,none⟩:Addr).add j=⟨b,off+j,none⟩:=by unfold Addr.add;split <;> simp_all
def rowV (kids:Nat→VT):Nat→List Value
 | 0=>[]
 | n+1=>rowV kids n ++ (kids n).cells
theorem cells_len {T:VT} {w:World} (h:T.In w):T.cells.length=10:=by
 cases T with
 | nil=>exact h.elim
 | mk=>rfl
theorem rowV_len {kids:Nat→VT} {n:Nat} (h:∀ i,i < n→(kids i).cells.length=10):(rowV kids n).length=n * 10:=by
 induction n with
 | zero=>rfl
 | succ n ih=>simp only [rowV];rw [List.length_append,ih fun i hi=>h i z0b,h n z0b];omega
theorem rowV_get {kids:Nat→VT} {n i j:Nat} (h:∀ i,i < n→(kids i).cells.length=10) (hi:i < n) (hj:j < 10):(rowV kids n)[i * 10+j]? = (kids i).cells[j]? := by
 induction n with
 | zero=>omega
 | succ n ih=>
  have hl:=rowV_len (kids:=kids) (n:=n) fun i hi=>h i z0b
  simp only [rowV]
  by_cases c:i < n
  ·rw [List.getElem?_append_left z0b]
   exact ih (fun i hi=>h i z0b) c
  ·have:i=n:=by omega
   subst this
   rw [List.getElem?_append_right z0b,hl,Nat.add_sub_cancel_left]
theorem cells_one (T:VT):∀ u ∈ T.cells,u.oneCell'=true:=by
 cases T with
 | nil=>intro u hu;cases hu
 | mk=>
  intro u hu
  simp only [VT.cells,List.mem_cons,List.not_mem_nil,or_false] at hu
  rcases hu with rfl|rfl|rfl|rfl|rfl|rfl|rfl|rfl|rfl|rfl <;> rfl
theorem rowV_one (kids:Nat→VT) (n:Nat):∀ u ∈ rowV kids n,u.oneCell'=true:=by
 induction n with
 | zero=>intro u hu;cases hu
 | succ n ih=>
  intro u hu
  simp only [rowV,List.mem_append] at hu
  rcases hu with h|h
  ·exact ih u h
  ·exact cells_one _ u h
theorem srcV {w w':World} {aL:Option Addr} {nL:Nat} {kids:Nat→VT} (cL:Nat) (hL:nL=0∨∃ b off,aL=some ⟨b,off,none⟩∧b < w.heap.size∧∀ i,i < nL→∀ j,j < 10→w.cell? ⟨b,off+i * 10+j,none⟩=(kids i).cells[j]?) (hI:∀ i,i < nL→(kids i).In w) (hb:Below w.heap.size w w'):SrcOk w' (.slice aL nL cL) nL 10 (rowV kids nL):=by
 have h10:∀ i,i < nL→(kids i).cells.length=10:=fun i hi=>cells_len (hI i hi)
 cases aL with
 | none=>
  rcases hL with h|⟨b,off,h,-⟩
  ·subst h
   exact .inr ⟨cL,rfl,rfl,rfl⟩
  ·cases h
 | some ad=>
  refine .inl ⟨ad,cL,rfl,rowV_len h10,fun j u hu=>?_,rowV_one kids nL⟩
  have hj:j < nL * 10:=by
   have:=(List.getElem?_eq_some_iff.1 hu).1
   rwa [rowV_len h10] at this
  rcases hL with h|⟨b,off,h,h2,h3⟩
  ·omega
  ·injection h with h
   subst h
   have e:=rowV_get h10 (show j / 10 < nL by omega) (show j % 10 < 10 by omega)
   rw [show j / 10 * 10+j % 10=j by omega] at e
   rw [e] at hu
   rw [addr_at,hb.cell (p:=⟨b,off+j,none⟩) h2,show off+j=off+j / 10 * 10+j % 10 by omega,h3 _ z0b _ z0b]
   exact hu
theorem infoStr:(Tryd.prog.info? 9).map (fun i=>(i.zero,i.size,i.bytes))=some (some (.string ⟨#[]⟩),1,16):=by kernel_rfl
theorem infoVal:(Tryd.prog.info? 35).map (fun i=>(i.zero,i.size,i.bytes))=some (some (.agg #[.int .i64 0,.bool false,.int .u64 0,.int .u64 0,.int .u64 0,.int .u64 0,.int .u64 0,.string ⟨#[]⟩,.slice none 0 0,.slice none 0 0]),10,120):=by kernel_rfl
def keysB (keys:Nat→ByteArray) (n:Nat) (s:ByteArray) (i:Nat):ByteArray:=if i < n then keys i else s
theorem eqNil_some (g0 off n c:Nat) (w:World):(binOp .eql 33 (.slice (some ⟨g0,off,none⟩) n c) (.slice none 0 0)).run Tryd.prog w=.ok (.bool false) w:=by
 have h:=Tryd.underlying33
 unfold binOp
 simp only [go_sem]
 unfold Op.equal Op.maxDepth Op.equalIn
 simp only [Sem.run_bind,run_underlying h,Result.andThen_ok]
 simp [go_sem]
/-- **slices.Clone**: a row of the call's own -/
theorem CloneV_any (g0:Nat) (off:Nat) (nL cL:Nat) (kids:Nat→VT) (w:World) (hn:nL≤1000000)
  (HL:nL=0∨∃ b o,(some ⟨g0,off,none⟩:Option Addr)=some ⟨b,o,none⟩∧b < w.heap.size∧∀ i,i < nL→∀ j,j < 10→w.cell? ⟨b,o+i * 10+j,none⟩=(kids i).cells[j]?) (HI:∀ i,i < nL→(kids i).In w) :
  Calls Tryd.prog 42 #[.slice (some ⟨g0,off,none⟩) nL cL] w fun e w'=>∃ g c,e=.returned (.slice (some ⟨g,0,none⟩) nL c)∧Below w.heap.size w w'∧w'.ownsRow w.heap.size 35 10 (.slice (some ⟨g,0,none⟩) nL c) nL (rowV kids nL):=by
 obtain ⟨i0,hi,hz0,hz1,hz2⟩:=info_parts infoVal
 have HL:=Lib.hid HL
 have HI:=Lib.hid HI
 have own0:(w.alloc (.cells #[] 35)).ownsRow w.heap.size 35 10 (.slice (some ⟨w.heap.size,0,none⟩) 0 0) 0 []:=World.ownsRow_made w #[] 0 (Nat.le_refl _) z0g rfl
 have src0:SrcOk (w.alloc (.cells #[] 35)) (.slice (some ⟨g0,off,none⟩) nL cL) nL 10 (rowV kids nL):=srcV cL HL.out HI.out zb2
 have q1:=eqNil_some g0 off nL cL
 go_enter Tryd.func42,Tryd.ntmps42
 repeat any_goals (first|(at_builtin;refine wpList_append_row rfl (.tmp 5) (.tmp 6) 33 rfl w.heap.size 35 i0 (.agg #[.int .i64 0,.bool false,.int .u64 0,.int .u64 0,.int .u64 0,.int .u64 0,.int .u64 0,.string ⟨#[]⟩,.slice none 0 0,.slice none 0 0]) 10 120 Tryd.underlying33 hi hz0 hz1 hz2 rfl z0g _ _ _ rfl own0 ⟨_,_,rfl⟩ _ nL (rowV kids nL) rfl src0 z0o z0b z0c ?_;intro v1 w3 own1 hg1 ib1;have hb1':Below w.heap.size w w3:=(below_alloc (Below.refl _ _) _).grown hg1 z0c (fun k h=>(own0.lt k h).1);obtain ⟨g,c2,rfl⟩:=ib1)|go_skip|go_guarded|go_step|go_upon|(dsimp only []))
 rw [Nat.zero_add,List.nil_append] at own1
 exact bodyPost_ret (v:=.slice (some ⟨g,0,none⟩) nL c2) (by simp [results,Tryd.results42,go_sem]) rfl ⟨g,c2,rfl,hb1',own1⟩
structure TIn (w:World) (a:Option Addr) (n c:Nat) (K:Nat→Int) (S:Nat→ByteArray):Prop where
 l:n≤c
 lc:c≤maxLen
 c:n=0∨∃ b off,a=some ⟨b,off,none⟩∧b < w.heap.size∧∀ i,i < n→w.cell? ⟨b,off+i * 2,none⟩=some (.int .i64 (K i))∧w.cell? ⟨b,off+i * 2+1,none⟩=some (.string (S i))
theorem TIn.below {w w':World} {a:Option Addr} {n c:Nat} {K:Nat→Int} {S:Nat→ByteArray} (h:TIn w a n c K S) (hb:Below w.heap.size w w'):TIn w' a n c K S:=by
 refine ⟨h.l,h.lc,?_⟩
 rcases h.c with h0|⟨b,off,e,hl,hc⟩
 ·exact .inl h0
 ·exact .inr ⟨b,off,e,Nat.lt_of_lt_of_le hl hb.size,fun i hi=>⟨by rw [hb.cell (p:=⟨b,off+i * 2,none⟩) hl];exact (hc i hi).1,by rw [hb.cell (p:=⟨b,off+i * 2+1,none⟩) hl];exact (hc i hi).2⟩⟩
structure PBx (w:World) (B:Nat) (a:Option Addr) (n c i:Nat) (bad:Bool):Prop where
 c:w.cell? ⟨B,0,none⟩=some (.slice a n c)∧w.cell? ⟨B,1,none⟩=some (.int .i64 (i:Nat))∧w.cell? ⟨B,2,none⟩=some (.bool bad)
 f:∀ j,w.frozen? ⟨B,j,none⟩=false
theorem PBx.lt {w:World} {B:Nat} {a:Option Addr} {n c i:Nat} {bad:Bool} (h:PBx w B a n c i bad):B < w.heap.size:=World.block_lt_of_cell? w ⟨B,0,none⟩ h.c.1
theorem PBx.below {w w1:World} {B:Nat} {a:Option Addr} {n c i:Nat} {bad:Bool} (h:PBx w B a n c i bad) (hb:Below w.heap.size w w1):PBx w1 B a n c i bad:=by
 have hl:=h.lt
 obtain ⟨⟨h0,h1,h2⟩,hf⟩:=h
 exact ⟨⟨keep_cell hb h0,keep_cell hb h1,keep_cell hb h2⟩,fun j=>by rw [hb.frozen (p:=⟨B,j,none⟩) hl];exact hf j⟩
def tokK (K:Nat→Int) (n j:Nat):Int:=if j < n then K j else 0
def tokS (S:Nat→ByteArray) (n j:Nat):ByteArray:=if j < n then S j else ⟨#[]⟩
theorem At_any (B:Nat) (a:Option Addr) (n c i:Nat) (bad:Bool) (K:Nat→Int) (S:Nat→ByteArray) (k:Nat) (w:World) (hP:PBx w B a n c i bad) (hT:TIn w a n c K S) (hi:i≤1000000) (hk:k≤1) :
  Calls Tryd.prog 25 #[.pointer (some ⟨B,0,none⟩),.int .i64 (k:Nat)] w fun e w'=>e=.returned (.agg #[.int .i64 (tokK K n (i+k)),.string (tokS S n (i+k))])∧Below w.heap.size w w':=by
 have hB:=hP.lt
 obtain ⟨_,_,_⟩:=hP.c
 have l1:=hT.l
 have l2:=hT.lc
 simp only [maxLen] at l2
 by_cases h:i+k < n
 ·obtain ⟨b,off,rfl,hb,hc⟩:∃ b off,a=some ⟨b,off,none⟩∧b < w.heap.size∧∀ i,i < n→w.cell? ⟨b,off+i * 2,none⟩=some (.int .i64 (K i))∧w.cell? ⟨b,off+i * 2+1,none⟩=some (.string (S i)):=by
   rcases hT.c with h0|h0
   ·omega
   ·exact h0
  obtain ⟨c0,c1⟩:=hc _ h
  have e1:tokK K n (i+k)=K (i+k):=if_pos h
  have e2:tokS S n (i+k)=S (i+k):=if_pos h
  rw [e1,e2]
  clear e1 e2 hc hP hT
  have g1:((i:Int)+(k:Int)) < (n:Int):=by omega
  have g2:(0:Int)≤(i:Int)+(k:Int):=by omega
  have g3:((i:Int)+(k:Int)).toNat=i+k:=by omega
  go_enter Tryd.func25,Tryd.ntmps25
  repeat any_goals (first|go_region|go_skip|go_guarded|go_step|go_upon|(dsimp only []))
  exact bodyPost_ret (v:=.agg #[.int .i64 (K (i+k)),.string (S (i+k))]) (by simp [results,Tryd.results25,go_sem]) rfl ⟨rfl,zb2⟩
 ·have e1:tokK K n (i+k)=0:=if_neg h
  have e2:tokS S n (i+k)=⟨#[]⟩:=if_neg h
  rw [e1,e2]
  clear e1 e2 hP hT
  have g1:¬ ((i:Int)+(k:Int)) < (n:Int):=by omega
  go_enter Tryd.func25,Tryd.ntmps25
  repeat any_goals (first|go_region|go_skip|go_guarded|go_step|go_upon|(dsimp only []))
  exact bodyPost_ret (v:=.agg #[.int .i64 0,.string ⟨#[]⟩]) (by simp [results,Tryd.results25,go_sem]) rfl ⟨rfl,zb2⟩
end Go.Proofs.YtfondldmmcmloaaDoor
