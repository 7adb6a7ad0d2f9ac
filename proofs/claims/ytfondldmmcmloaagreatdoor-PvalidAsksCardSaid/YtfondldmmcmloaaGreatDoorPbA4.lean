/- PK, PN, PO. -/
import Derived.Test.YtfondldmmcmloaaGreatDoorPb26
import Derived.Test.YtfondldmmcmloaaGreatDoorPbA3
set_option maxRecDepth 1000000
set_option maxHeartbeats 8000000
namespace Go.Proofs.YtfondldmmcmloaaGreatDoor
open Go Go.RowKit
theorem za4zs1 {p q:Prop} (h:q) (e:q→p:=by intro hq;(try simp only [Act.put,List.setIfInBounds_toArray,List.set_cons_zero,List.set_cons_succ]);exact hq):p:=e h
theorem za4zk1 {p:Prop} (h:p:=by
 obtain ⟨q,hq3,rfl,hA3,hWq⟩:=hrel
 have H3:=Lib.hid hA3
 clear hA3
 have F4:=Lib.hid (F3.out.below hWq)
 have X4:=Lib.hid (X3.out.below hWq)
 have hW4:=below_trans hW3 hWq
 obtain ⟨_,_,_,_,_,_⟩:=F4.out.all
 obtain ⟨_,_,_,_,_,_,_,_,_,_⟩:=X4.out.all
 by_cases hqn:q < nL'
 ·obtain ⟨qb,qo,kindq,negq,Vq,bitsq,textq,aLq,nLq,cLq,kidsq,aKq,nKq,cKq,keysq,e1,hqb,hkq,hcq,-⟩:=kid_lit (HKIN.out.subL HKID.out).1 (HKIN.out.subL HKID.out).2 hqn (below_trans hY3W hWq)
  have KQ:=Lib.hid (show KBx wr qb (qo+q * 10) kindq negq Vq bitsq textq aLq nLq cLq aKq nKq cKq from ⟨hcq⟩)
  subst e1
  obtain ⟨y,hy⟩:∃ y,(okT M n (kids' q)).one ty=y:=⟨_,rfl⟩
  have C4:=Lib.hid fun wx (hx:Below w.heap.size w wx)=>C3.out q hqn wx hx
  rw [hy,hkq] at C4
  unfold VT.agg VT.cells at C4
  have HY:=Lib.hid hy
  have p1:(q:Int) < (nL':Int):=by omega
  have p2:(0:Int)≤(q:Int):=by omega
  have p5:(q:Int).toNat=q:=rfl
  clear hy hkq hcq hqb
  go_upto_region 18 with fail
  (obtain ⟨C_,hC⟩:∃ C:World→Prop,C=fun w'=>Below (wr).heap.size (wr) w':=⟨_,rfl⟩;have HC:=Lib.hid hC;have hne:∀ p:Prop,(∀ w1:World,C_ w1→p)=p:=fun p=>propext ⟨fun h=>h (wr) z0i,fun h _ _=>h⟩;clear hC;refine wp_region_quiet_cls (C:=C_) z0a z0a z0g ?_)
  (go_big_quiet_want;go_big_quiet_op;go_big_quiet_on)
  (go_big_quiet_want;go_big_quiet_op;go_big_quiet_on)
  (go_big_quiet_want;refine ⟨.string ty,fun w1 hw1=>?_,?_⟩;(rw [HC.out] at hw1;obtain ⟨_,_,_,_,_⟩:=(F4.out.below hw1).all;simp [Oper.quietAt,go_sem, *]);refine za4zs1 ?_;go_big_quiet_on)
  (go_big_quiet_want;go_big_quiet_op;go_big_quiet_on)
  (go_big_quiet_want;refine ⟨.slice (some ⟨qb,qo,none⟩) nL' cL',fun w1 hw1=>?_,?_⟩;(rw [HC.out] at hw1;obtain ⟨_,_,_,_,_⟩:=(X4.out.below hw1).all;simp [Oper.quietAt,go_sem, *]);refine za4zs1 ?_;go_big_quiet_on)
  (go_big_quiet_want;go_big_quiet_op;go_big_quiet_on)
  (go_big_quiet_want;go_big_quiet_op;go_big_quiet_on)
  (go_big_quiet_want;refine ⟨.agg #[.int .i64 kindq,.bool negq,.int .u64 (lm Vq 0:Nat),.int .u64 (lm Vq 1:Nat),.int .u64 (lm Vq 2:Nat),.int .u64 (lm Vq 3:Nat),.int .u64 (bitsq:Nat),.string textq,.slice aLq nLq cLq,.slice aKq nKq cKq],fun w1 hw1=>?_,?_⟩;(rw [HC.out] at hw1;obtain ⟨_,_,_,_,_⟩:=(KQ.out.below hw1).all;simp [Oper.quietAt,go_sem, *]);refine za4zs1 ?_;go_big_quiet_on)
  (go_big_quiet_want;go_big_quiet_op;refine ⟨.bool y,fun w1 hw1=>?_,?_⟩;(rw [HC.out] at hw1 ⊢;with_reducible refine (C4.out _ (below_trans hW4 hw1)).mono ?_;rintro e w4 ⟨rfl,hb4⟩;exact ⟨rfl,below_trans hw1 hb4⟩);go_big_quiet_on)
  (go_big_quiet_want;go_big_quiet_op;go_big_quiet_on)
  (refine wpQuiet_nil ?_;intro w2 hw2;rw [HC.out] at hw2)
  cases y with
  | false=>
   have e2:x=false:=by rw [HAL.out,anyN_of (p:=fun i => !(okT M n (kids' i)).one ty) (show (!(okT M n (kids' q)).one ty)=true by rw [HY.out];rfl) hqn];rfl
   obtain rfl:R=false:=by rw [HR2.out,anyN_of (p:=(fun i=>decide (placeF m (keys i) < 0) || !memO (fldV m (keys i)) (kids i).kd (okT M n (kids i)))) (HBD.out.trans (by rw [e2];rfl)) hjn];rfl
   repeat any_goals (first|go_skip|go_guarded|go_step|go_upon|(simp only [];done))
   exact bodyPost_ret (v:=.bool false) z0g1 rfl ⟨rfl,below_trans hW4 hw2⟩
  | true=>
   repeat any_goals (first|go_skip|go_guarded|go_step|go_upon|(simp only [];done))
   go_roundw
   case rel=>exact ⟨q+1,by omega,rfl,by show (anyN _ q || !(okT M n (kids' q)).one ty)=false;rw [H3.out,HY.out];rfl,below_trans hWq hw2⟩
   case measure=>simp [intOf];omega
 ·have hq':q=nL':=by omega
  have p1:¬ (q:Int) < (nL':Int):=by omega
  have e2:x=true:=by rw [HAL.out,← hq',H3.out];rfl
  have HE2:=Lib.hid e2
  clear hq' e2
  repeat any_goals (first|go_skip|go_guarded|go_step|go_upon|(simp only [];done))
  go_roundw
  case rel=>exact ⟨j+1,by omega,rfl,by show (anyN _ j || _)=false;rw [H1.out];exact HBD.out.trans (by rw [HE2.out];rfl),below_trans hY3 hWq⟩
  case measure=>simp [intOf];omega):p:=h
theorem za4zk2 {p:Prop} (h:p:=by
 obtain rfl:x=false:=by rw [HX.out];simp [ck]
 obtain rfl:R=false:=by rw [HR2.out,anyN_of (p:=(fun i=>decide (placeF m (keys i) < 0) || !memO (fldV m (keys i)) (kids i).kd (okT M n (kids i)))) HBD.out hjn];rfl
 repeat any_goals (first|go_skip|go_guarded|go_step|go_upon|(simp only [];done))
 exact bodyPost_ret (v:=.bool false) z0g1 rfl ⟨rfl,hW3⟩):p:=h
end Go.Proofs.YtfondldmmcmloaaGreatDoor
namespace Go.Proofs.YtfondldmmcmloaaGreatDoor
open Go.RowKit
/-- **field** -/
theorem RField_any (m:PM) (s:ByteArray) (w:World) (hm:m.In w):Calls Tryz.prog 38 #[m.agg,.string s] w fun e w'=>e=.returned (.int .i64 (placeF m s))∧Below w.heap.size w w':=by
 have HM:=Lib.hid hm
 have l5:=hm.f.l
 have l6:=hm.f.lc
 simp only [maxLen] at l6
 unfold PM.agg
 obtain ⟨aF,haF⟩:∃ x,m.aF=x:=⟨_,rfl⟩
 rw [haF]
 have HAF:=Lib.hid haF
 clear hm haF
 go_enter Tryz.func38,Tryz.ntmps38
 repeat any_goals (first|go_skip|go_guarded|go_step|go_upon|(simp only [];done))
 have M0:(w.alloc (.cells #[.string m.name,.slice aF m.nF m.cF,.slice m.aN m.nN m.cN,.slice m.aS m.nS m.cS] 45)).cell? ⟨w.heap.size,1,none⟩=some (.slice aF m.nF m.cF):=by simp [go_sem]
 have hW0:=below_alloc (Below.refl w.heap.size w) (.cells #[.string m.name,.slice aF m.nF m.cF,.slice m.aN m.nN m.cN,.slice m.aS m.nS m.cS] 45)
 generalize (w.alloc (.cells #[.string m.name,.slice aF m.nF m.cF,.slice m.aN m.nN m.cN,.slice m.aS m.nS m.cS] 45))=w0 at *
 obtain ⟨B,hB⟩:∃ B,B=w.heap.size:=⟨_,rfl⟩
 rw [← hB] at M0 ⊢
 clear hB
 go_loop [5] (fun i=>∃ k:Nat,k≤m.nF∧i=.int .i64 k∧fstN (fun i=>eqS (m.F i).name s) k = -1) (fun i=>m.nF - (intOf i).toNat)
 case atStart=>exact ⟨0,Nat.zero_le _,rfl,rfl⟩
 case round=>
  obtain ⟨k,hk,rfl,hr⟩:=hrel
  have H1:=Lib.hid hr
  clear hr
  by_cases hkn:k < m.nF
  ·obtain ⟨b,off,e0,hbl,hf,-⟩:=f_lit HM.out.f hkn hW0
   rw [HAF.out] at e0
   subst e0
   have i1:(k:Int) < (m.nF:Int):=by omega
   have i2:(0:Int)≤(k:Int):=by omega
   have i5:(k:Int).toNat=k:=rfl
   obtain ⟨_,_,_,_,_,_⟩:=hf.all
   obtain ⟨x,hx⟩:∃ x,((m.F k).name.toList == s.toList)=x:=⟨_,rfl⟩
   have HX:=Lib.hid (show (fun i=>eqS (m.F i).name s) k=x from hx)
   cases x with
   | true=>
    have e:fstN (fun i=>eqS (m.F i).name s) m.nF=k:=fstN_hit H1.out HX.out hkn
    repeat any_goals (first|go_skip|go_guarded|go_step|go_upon|(simp only [];done))
    exact bodyPost_ret (v:=.int .i64 (k:Nat)) (by simp [results,Tryz.results38,go_sem]) rfl ⟨by unfold placeF;rw [e],hW0⟩
   | false=>
    repeat any_goals (first|go_skip|go_guarded|go_step|go_upon|(simp only [];done))
    go_round
    case rel=>exact ⟨k+1,by omega,rfl,fstN_on H1.out HX.out⟩
    case measure=>simp [intOf];omega
  ·obtain rfl:k=m.nF:=by omega
   have i1:¬ (m.nF:Int) < (m.nF:Int):=by omega
   repeat any_goals (first|go_skip|go_guarded|go_step|go_upon|(simp only [];done))
   exact bodyPost_ret (v:=.int .i64 (-1)) (by simp [results,Tryz.results38,go_sem]) rfl ⟨by unfold placeF;rw [H1.out],hW0⟩
section
variable (M:Nat→PM) (a:Option Addr) (n c:Nat)
def ROne (T:VT):Prop:=∀ (s:ByteArray) (w:World),Asks M n s→PL w a n c M→T.In w→T.right=true →
 Calls Tryz.prog 54 #[.slice a n c,.string s,T.agg] w fun e w'=>e=.returned (.bool ((okT M n T).one s))∧Below w.heap.size w w'
def RMsg (T:VT):Prop:=∀ (k:Nat) (w:World),k < n→PL w a n c M→T.In w→T.right=true →
 Calls Tryz.prog 24 #[.slice a n c,.int .i64 k,T.agg] w fun e w'=>e=.returned (.bool ((okT M n T).msg (M k)))∧Below w.heap.size w w'
end
theorem one_mk (M:Nat→PM) (a:Option Addr) (n c:Nat) (kind:Int) (neg:Bool) (V bits:Nat) (text:ByteArray) (aL:Option Addr) (nL cL:Nat) (kids:Nat→VT) (aK:Option Addr) (nK cK:Nat) (keys:Nat→ByteArray) (hM:RMsg M a n c (.mk kind neg V bits text aL nL cL kids aK nK cK keys)):ROne M a n c (.mk kind neg V bits text aL nL cL kids aK nK cK keys):=by
 intro s w hA hL hin hr
 have HR:=Lib.hid (right_parts hr)
 have HIN:=Lib.hid hin
 have HL:=Lib.hid hL
 obtain ⟨ho,-⟩:=hin
 have hV:=ho.v
 obtain ⟨x2,hx2⟩:∃ x,scalarB s=x:=⟨_,rfl⟩
 obtain ⟨R,hR⟩:∃ R,R=(okT M n (.mk kind neg V bits text aL nL cL kids aK nK cK keys)).one s:=⟨_,rfl⟩
 rw [← hR]
 rw [okT_one,hx2] at hR
 have C1:=Lib.hid fun wx=>RScalar_any s wx
 rw [hx2] at C1
 cases x2 with
 | true=>
  rw [if_pos rfl] at hR
  have C2:=Lib.hid fun wx=>RSc_any s hx2 kind neg V bits text aL nL cL aK nK cK hV HR.out.1 wx
  rw [← hR] at C2
  unfold VT.agg VT.cells
  clear hM hA hr ho hV hx2 hR hL
  go_enter Tryz.func54,Tryz.ntmps54
  go_upto_region 1 with fail
  have V0:=Lib.hid (vbx_new w 31 kind neg V bits text aL nL cL aK nK cK)
  have hW0:=below_alloc (Below.refl w.heap.size w) (.cells #[.int .i64 kind,.bool neg,.int .u64 (lm V 0:Nat),.int .u64 (lm V 1:Nat),.int .u64 (lm V 2:Nat),.int .u64 (lm V 3:Nat),.int .u64 (bits:Nat),.string text,.slice aL nL cL,.slice aK nK cK] 31)
  generalize w.alloc (.cells #[.int .i64 kind,.bool neg,.int .u64 (lm V 0:Nat),.int .u64 (lm V 1:Nat),.int .u64 (lm V 2:Nat),.int .u64 (lm V 3:Nat),.int .u64 (bits:Nat),.string text,.slice aL nL cL,.slice aK nK cK] 31)=w0 at *
  obtain ⟨B0,hB0⟩:∃ B,B=w.heap.size:=⟨_,rfl⟩
  rw [← hB0] at V0 ⊢
  have hB0':=Lib.hid hB0
  clear hB0
  repeat any_goals (first|(go_at_call 40;with_reducible refine (C1.out _).mono ?_;rintro e w1 ⟨rfl,hb1⟩;have V1:=Lib.hid (V0.out.below hb1);obtain ⟨_,_,_,_,_,_,_,_,_,_⟩:=V1.out.all)|(go_at_call 84;with_reducible refine (C2.out _).mono ?_;rintro e w2 ⟨rfl,hb2⟩)|go_skip|go_guarded|go_step|go_upon|(dsimp only []))
  exact bodyPost_ret (v:=.bool R) (by simp [results,Tryz.results54,go_sem]) rfl ⟨rfl,below_trans (below_trans hW0 hb1) hb2⟩
 | false=>
  obtain ⟨z,hz⟩:∃ z,placeM M n s=z:=⟨_,rfl⟩
  have hz0:0≤z:=by
   rcases hA with h|h
   ·rw [hx2] at h;cases h
   ·omega
  have hzn:z < n:=by rw [← hz];exact placeM_lt
  obtain ⟨k,hk⟩:∃ k:Nat,z=k:=⟨z.toNat,by omega⟩
  subst hk
  have hkn:k < n:=by omega
  rw [if_neg Bool.false_ne_true,hz,decide_eq_false z0c,Bool.not_false,Bool.true_and,show ((k:Int)).toNat=k from rfl] at hR
  have C3:=Lib.hid fun wx (hx:Below w.heap.size w wx)=>RPlace_any a n c M s wx (HL.out.below hx)
  have C4:=Lib.hid fun wx (hx:Below w.heap.size w wx)=>hM k wx hkn (HL.out.below hx) (VT.In.below hx _ HIN.out) hr
  rw [hz] at C3
  rw [← hR] at C4
  unfold VT.agg VT.cells at C4 ⊢
  clear hM hA hr ho hV hx2 hR hL hz
  go_enter Tryz.func54,Tryz.ntmps54
  go_upto_region 1 with fail
  have V0:=Lib.hid (vbx_new w 31 kind neg V bits text aL nL cL aK nK cK)
  have hW0:=below_alloc (Below.refl w.heap.size w) (.cells #[.int .i64 kind,.bool neg,.int .u64 (lm V 0:Nat),.int .u64 (lm V 1:Nat),.int .u64 (lm V 2:Nat),.int .u64 (lm V 3:Nat),.int .u64 (bits:Nat),.string text,.slice aL nL cL,.slice aK nK cK] 31)
  generalize w.alloc (.cells #[.int .i64 kind,.bool neg,.int .u64 (lm V 0:Nat),.int .u64 (lm V 1:Nat),.int .u64 (lm V 2:Nat),.int .u64 (lm V 3:Nat),.int .u64 (bits:Nat),.string text,.slice aL nL cL,.slice aK nK cK] 31)=w0 at *
  obtain ⟨B0,hB0⟩:∃ B,B=w.heap.size:=⟨_,rfl⟩
  rw [← hB0] at V0 ⊢
  have hB0':=Lib.hid hB0
  clear hB0
  go_upto_region 3 with (go_at_call 40;with_reducible refine (C1.out _).mono ?_;rintro e w1 ⟨rfl,hb1⟩)
  have V1:=Lib.hid (V0.out.below hb1)
  have hW1:=below_trans hW0 hb1
  (obtain ⟨C_,hC⟩:∃ C:World→Prop,C=fun w'=>Below (w1).heap.size (w1) w':=⟨_,rfl⟩;have HC:=Lib.hid hC;have hne:∀ p:Prop,(∀ w1:World,C_ w1→p)=p:=fun p=>propext ⟨fun h=>h (w1) z0i,fun h _ _=>h⟩;clear hC;refine wp_region_quiet_cls (C:=C_) z0a z0a z0g ?_)
  (go_big_quiet_want;go_big_quiet_op;go_big_quiet_on)
  (go_big_quiet_want;go_big_quiet_op;go_big_quiet_on)
  (go_big_quiet_want;go_big_quiet_op;go_big_quiet_on)
  (go_big_quiet_want;go_big_quiet_op;refine ⟨.int .i64 k,fun w1 hw1=>?_,?_⟩;(rw [HC.out] at hw1 ⊢;with_reducible refine (C3.out _ (below_trans hW1 hw1)).mono ?_;rintro e w4 ⟨rfl,rfl⟩;exact ⟨rfl,hw1⟩);go_big_quiet_on)
  (go_big_quiet_want;refine ⟨.agg #[.int .i64 kind,.bool neg,.int .u64 (lm V 0:Nat),.int .u64 (lm V 1:Nat),.int .u64 (lm V 2:Nat),.int .u64 (lm V 3:Nat),.int .u64 (bits:Nat),.string text,.slice aL nL cL,.slice aK nK cK],fun w1 hw1=>?_,?_⟩;(rw [HC.out] at hw1;obtain ⟨_,_,_,_,_⟩:=(V1.out.below hw1).all;simp [Oper.quietAt,go_sem, *]);refine za4zs1 ?_;go_big_quiet_on)
  (go_big_quiet_want;go_big_quiet_op;refine ⟨.bool R,fun w1 hw1=>?_,?_⟩;(rw [HC.out] at hw1 ⊢;with_reducible refine (C4.out _ (below_trans hW1 hw1)).mono ?_;rintro e w4 ⟨rfl,hb4⟩;exact ⟨rfl,below_trans hw1 hb4⟩);go_big_quiet_on)
  (go_big_quiet_want;go_big_quiet_op;go_big_quiet_on)
  (refine wpQuiet_nil ?_;intro w2 hw2;rw [HC.out] at hw2)
  repeat any_goals (first|go_skip|go_guarded|go_step|go_upon|(simp only [];done))
  exact bodyPost_ret (v:=.bool R) (by simp [results,Tryz.results54,go_sem]) rfl ⟨rfl,below_trans hW1 hw2⟩
def NoBoth (M:Nat→PM) (n:Nat):Prop:=∀ k,k < n→∀ i,i < (M k).nF→(((M k).F i).rep && ((M k).F i).map)=false
theorem check_both {M:Nat→PM} {n:Nat} (h:checkB M n=true):NoBoth M n:=by
 unfold checkB at h
 rw [Bool.and_eq_true,Bool.and_eq_true,Bool.not_eq_true'] at h
 intro k hk i hi
 have h1:=anyN_no h.2.2 hk
 unfold msgBad at h1
 simp only [Bool.or_eq_false_iff,Bool.not_eq_false'] at h1
 have h2:=h1.2.2.2
 unfold fieldsB at h2
 rw [Bool.not_eq_true'] at h2
 have h3:=anyN_no h2 hi
 unfold fldBad fldB at h3
 simp only [Bool.or_eq_false_iff] at h3
 exact h3.2.1.2.2.1
theorem fld_both {M:Nat→PM} {n k:Nat} {s:ByteArray} (h:NoBoth M n) (hk:k < n) (hz:0≤placeF (M k) s):((fldV (M k) s).rep && (fldV (M k) s).map)=false:=by
 unfold fldV
 rw [if_neg z0c]
 exact h k hk _ (by have:=placeF_lt (m:=M k) (s:=s);omega)
theorem VT.In.subL {w:World} {T:VT} {kind:Int} {neg:Bool} {V bits:Nat} {text:ByteArray} {aL:Option Addr} {nL cL:Nat} {kids:Nat→VT} {aK:Option Addr} {nK cK:Nat} {keys:Nat→ByteArray} (h:T.In w) (e:T=.mk kind neg V bits text aL nL cL kids aK nK cK keys) :
  (nL=0∨∃ b off,aL=some ⟨b,off,none⟩∧b < w.heap.size∧∀ i,i < nL→∀ j,j < 10→w.cell? ⟨b,off+i * 10+j,none⟩=(kids i).cells[j]?)∧(∀ i,i < nL→(kids i).In w):=by
 subst e
 exact ⟨h.2.1,h.2.2.1⟩
theorem VT.In.subO {w:World} {T:VT} {kind:Int} {neg:Bool} {V bits:Nat} {text:ByteArray} {aL:Option Addr} {nL cL:Nat} {kids:Nat→VT} {aK:Option Addr} {nK cK:Nat} {keys:Nat→ByteArray} (h:T.In w) (e:T=.mk kind neg V bits text aL nL cL kids aK nK cK keys) :
  nL≤9223372036854775807:=by
 subst e
 have h1:=h.1.l
 have h2:=h.1.lc
 unfold maxLen at h2
 omega
theorem far_two {w:World} {b j:Nat} {v:Value} (h:w.cell? ⟨b,j,none⟩=some v):b < w.heap.size∧b < w.heap.size+1∧b < w.heap.size+1+1∧b≤w.heap.size+1:=by
 have h1:b < w.heap.size:=World.block_lt_of_cell? w _ h
 omega
theorem rmsg_mk (M:Nat→PM) (a:Option Addr) (n c:Nat) (hTy:Types M n) (hNB:NoBoth M n) (kind:Int) (neg:Bool) (V bits:Nat) (text:ByteArray) (aL:Option Addr) (nL cL:Nat) (kids:Nat→VT) (aK:Option Addr) (nK cK:Nat) (keys:Nat→ByteArray) (hK:∀ i,i < nL→ROne M a n c (kids i)) (hKK:∀ i,i < nL→∀ q,q < (kids i).cnt→ROne M a n c ((kids i).sub q)):RMsg M a n c (.mk kind neg V bits text aL nL cL kids aK nK cK keys):=by
 intro k w hk hL hin hr
 have HR:=Lib.hid (right_parts hr)
 have HIN:=Lib.hid hin
 have HL:=Lib.hid hL
 obtain ⟨ho,hLL,hkk,hKy⟩:=hin
 have q1:=ho.l
 have q2:=ho.lc
 have q3:=ho.n
 have q4:=ho.nc
 have q5:=hL.l
 have q6:=hL.lc
 have HKY:=Lib.hid hKy
 have HLL:=Lib.hid hLL
 have HKI:=Lib.hid hkk
 obtain ⟨b,off,ea,hbl,hm4,hmi⟩:=m_lit hL hk (Below.refl _ _)
 have HIm:=Lib.hid hmi
 obtain ⟨m,hm⟩:∃ m,M k=m:=⟨_,rfl⟩
 obtain ⟨R,hR⟩:∃ R,R=(okT M n (.mk kind neg V bits text aL nL cL kids aK nK cK keys)).msg m:=⟨_,rfl⟩
 rw [hm] at HIm hm4 ⊢
 rw [← hR]
 rw [okT_msg] at hR
 have HRR:=Lib.hid hR
 have HK2:=Lib.hid fun (j:Nat) (hj:j < nL) (s:ByteArray) (hA:Asks M n s) wx (hx:Below w.heap.size w wx)=>hK j hj s wx hA (HL.out.below hx) (VT.In.below hx _ (HKI.out j hj)) (HR.out.2.2 j hj)
 have HK3:=Lib.hid fun (j:Nat) (hj:j < nL) (q:Nat) (hq:q < (kids j).cnt) (s:ByteArray) (hA:Asks M n s) wx (hx:Below w.heap.size w wx) (hin:((kids j).sub q).In wx) (hrr:((kids j).sub q).right=true)=>hKK j hj q hq s wx hA (HL.out.below hx) hin hrr
 have HFA:=Lib.hid fun (s:ByteArray) (hz:0≤placeF m s)=>(show Asks M n (fldV m s).type∧((fldV m s).rep && (fldV m s).map)=false from by rw [← hm] at hz ⊢;exact ⟨fld_asks hTy hk hz,fld_both hNB hk hz⟩)
 subst ea
 have l5:=hmi.f.l
 have l6:=hmi.f.lc
 rw [hm] at l5 l6
 have ML0:=Lib.hid (show ML w b (off+k * 4) m from ⟨⟨hm4.all.1,hm4.all.2.1,hm4.all.2.2.1,hm4.all.2.2.2,trivial⟩⟩)
 have k1:(k:Int) < (n:Int):=by omega
 have k2:(0:Int)≤(k:Int):=by omega
 have k5:(k:Int).toNat=k:=rfl
 unfold VT.agg VT.cells
 simp only [maxLen] at q2 q4 q6 l6
 clear hL ho hLL hkk hKy hr hm hR hK hKK hTy hNB hm4 hmi hbl
 go_enter Tryz.func24,Tryz.ntmps24
 go_upto_region 1 with fail
 have V0:=Lib.hid (vbx_new w 31 kind neg V bits text aL nL cL aK nK cK)
 have M0:=Lib.hid (ML0.out.below (below_alloc (Below.refl w.heap.size w) (.cells #[.int .i64 kind,.bool neg,.int .u64 (lm V 0:Nat),.int .u64 (lm V 1:Nat),.int .u64 (lm V 2:Nat),.int .u64 (lm V 3:Nat),.int .u64 (bits:Nat),.string text,.slice aL nL cL,.slice aK nK cK] 31)))
 have hW0:=below_alloc (Below.refl w.heap.size w) (.cells #[.int .i64 kind,.bool neg,.int .u64 (lm V 0:Nat),.int .u64 (lm V 1:Nat),.int .u64 (lm V 2:Nat),.int .u64 (lm V 3:Nat),.int .u64 (bits:Nat),.string text,.slice aL nL cL,.slice aK nK cK] 31)
 generalize w.alloc (.cells #[.int .i64 kind,.bool neg,.int .u64 (lm V 0:Nat),.int .u64 (lm V 1:Nat),.int .u64 (lm V 2:Nat),.int .u64 (lm V 3:Nat),.int .u64 (bits:Nat),.string text,.slice aL nL cL,.slice aK nK cK] 31)=w0 at *
 obtain ⟨B0,hB0⟩:∃ B,B=w.heap.size:=⟨_,rfl⟩
 rw [← hB0] at V0 ⊢
 clear hB0
 obtain ⟨_,_,_,_,_,_,_,_,_,_⟩:=V0.out.all
 by_cases c8:kind=8
 case neg=>
  obtain rfl:R=false:=by rw [HRR.out,decide_eq_false c8];rfl
  have c1:(kind == 8)=false:=beq_false_of_ne c8
  repeat any_goals (first|go_skip|go_guarded|go_step|go_upon|(simp only [];done))
  exact bodyPost_ret (v:=.bool false) z0g1 rfl ⟨rfl,hW0⟩
 case pos=>
  obtain rfl:nK=nL:=HR.out.2.1 c8
  have HR2:=Lib.hid (show R = !anyN (fun i=>decide (placeF m (keys i) < 0) || !memO (fldV m (keys i)) (kids i).kd (okT M n (kids i))) nK from by rw [HRR.out,decide_eq_true c8,Bool.true_and])
  subst c8
  clear HRR
  repeat any_goals (first|go_skip|go_guarded|go_step|go_upon|(simp only [];done))
  go_loopw [7] (fun i wr=>∃ j:Nat,j≤nK∧i=.int .i64 j∧anyN (fun i=>decide (placeF m (keys i) < 0) || !memO (fldV m (keys i)) (kids i).kd (okT M n (kids i))) j=false∧Below w0.heap.size w0 wr) (fun i _=>nK - (intOf i).toNat)
  case atStart=>exact ⟨0,Nat.zero_le _,rfl,rfl,Below.refl _ _⟩
  case round=>
   obtain ⟨j,hj,rfl,hA,hW⟩:=hrel
   have H1:=Lib.hid hA
   have Mr:=Lib.hid (M0.out.below hW)
   have Vr:=Lib.hid (V0.out.below hW)
   have hWr:=below_trans hW0 hW
   clear hA
   obtain ⟨_,_,_,_,_,_,_,_,_,_⟩:=Vr.out.all
   by_cases hjn:j < nK
   ·obtain ⟨kb,ko,rfl,hkb,hkc,hks⟩:=key_lit HKY.out hjn hWr
    obtain ⟨lb,lo,kind',neg',V',bits',text',aL',nL',cL',kids',aK',nK',cK',keys',rfl,hlb,hkid,hcells,hkin⟩:=kid_lit HLL.out HKI.out hjn hWr
    have KB:=Lib.hid (show KBx wr lb (lo+j * 10) kind' neg' V' bits' text' aL' nL' cL' aK' nK' cK' from ⟨hcells⟩)
    obtain ⟨s,hs⟩:∃ s,keys j=s:=⟨_,rfl⟩
    obtain ⟨z,hz⟩:∃ z,placeF m s=z:=⟨_,rfl⟩
    have C1:=Lib.hid fun wx (hx:Below w.heap.size w wx)=>RField_any m s wx (HIm.out.below hx)
    rw [hz] at C1
    unfold PM.agg at C1
    rw [hs] at hkc
    have KS:=Lib.hid (show KC5 wr kb (ko+j) s from ⟨hkc,trivial,trivial,trivial,trivial⟩)
    have HS:=Lib.hid hs
    have HZ:=Lib.hid hz
    have HKID:=Lib.hid hkid
    have HKIN:=Lib.hid hkin
    have HRK:=Lib.hid (HR.out.2.2 j hjn)
    have i1:(j:Int) < (nK:Int):=by omega
    have i2:(0:Int)≤(j:Int):=by omega
    have i5:(j:Int).toNat=j:=rfl
    clear hs hz hkid hcells hkin hks hkc
    go_upto_region 6 with fail
    (obtain ⟨C_,hC⟩:∃ C:World→Prop,C=fun w'=>Below (wr).heap.size (wr) w':=⟨_,rfl⟩;have HC:=Lib.hid hC;have hne:∀ p:Prop,(∀ w1:World,C_ w1→p)=p:=fun p=>propext ⟨fun h=>h (wr) z0i,fun h _ _=>h⟩;clear hC;refine wp_region_quiet_cls (C:=C_) z0a z0a z0g ?_)
    (go_big_quiet_want;go_big_quiet_op;go_big_quiet_on)
    (go_big_quiet_want;go_big_quiet_op;go_big_quiet_on)
    (go_big_quiet_want;go_big_quiet_op;go_big_quiet_on)
    (go_big_quiet_want;refine ⟨.agg #[.string m.name,.slice m.aF m.nF m.cF,.slice m.aN m.nN m.cN,.slice m.aS m.nS m.cS],fun w1 hw1=>?_,?_⟩;(rw [HC.out] at hw1;obtain ⟨_,_,_,_,_⟩:=(Mr.out.below hw1).all;simp [Oper.quietAt,go_sem, *]);refine za4zs1 ?_;go_big_quiet_on)
    (go_big_quiet_want;go_big_quiet_op;go_big_quiet_on)
    (go_big_quiet_want;refine ⟨.slice (some ⟨kb,ko,none⟩) nK cK,fun w1 hw1=>?_,?_⟩;(rw [HC.out] at hw1;obtain ⟨_,_,_,_,_⟩:=(Vr.out.below hw1).all;simp [Oper.quietAt,go_sem, *]);refine za4zs1 ?_;go_big_quiet_on)
    (go_big_quiet_want;go_big_quiet_op;go_big_quiet_on)
    (go_big_quiet_want;go_big_quiet_op;go_big_quiet_on)
    (go_big_quiet_want;refine ⟨.string s,fun w1 hw1=>?_,?_⟩;(rw [HC.out] at hw1;obtain ⟨_,_,_,_,_⟩:=(KS.out.below hw1).all;simp [Oper.quietAt,go_sem, *]);refine za4zs1 ?_;go_big_quiet_on)
    (go_big_quiet_want;go_big_quiet_op;refine ⟨.int .i64 z,fun w1 hw1=>?_,?_⟩;(rw [HC.out] at hw1 ⊢;with_reducible refine (C1.out _ (below_trans hWr hw1)).mono ?_;rintro e w4 ⟨rfl,hb4⟩;exact ⟨rfl,below_trans hw1 hb4⟩);go_big_quiet_on)
    (go_big_quiet_want;go_big_quiet_op;go_big_quiet_on)
    (refine wpQuiet_nil ?_;intro w2 hw2;rw [HC.out] at hw2)
    have hWr2:=below_trans hWr hw2
    have V2:=Lib.hid (Vr.out.below hw2)
    have M2:=Lib.hid (Mr.out.below hw2)
    have K2:=Lib.hid (KB.out.below hw2)
    by_cases cz:z < 0
    ·obtain rfl:R=false:=by rw [HR2.out,anyN_of (p:=(fun i=>decide (placeF m (keys i) < 0) || !memO (fldV m (keys i)) (kids i).kd (okT M n (kids i)))) (show (fun i=>decide (placeF m (keys i) < 0) || !memO (fldV m (keys i)) (kids i).kd (okT M n (kids i))) j=true from by dsimp only;rw [HS.out,HZ.out,decide_eq_true cz];rfl) hjn];rfl
     repeat any_goals (first|go_skip|go_guarded|go_step|go_upon|(simp only [];done))
     exact bodyPost_ret (v:=.bool false) z0g1 rfl ⟨rfl,hWr2⟩
    ·obtain ⟨zk,hzk⟩:∃ zk:Nat,z=zk:=⟨z.toNat,by omega⟩
     subst hzk
     have hzl:zk < m.nF:=by have:=placeF_lt (m:=m) (s:=s);rw [HZ.out] at this;omega
     obtain ⟨fb,fo,ef,hfb,hf6,-⟩:=f_lit HIm.out.f hzl hWr2
     have hfv:fldV m s=m.F zk:=by unfold fldV;rw [HZ.out,if_neg cz];rfl
     have HFF:=HFA.out s (by rw [HZ.out];omega)
     rw [hfv] at HFF
     obtain ⟨⟨nm,ty,nu,op,re,ma⟩,hf⟩:∃ f,m.F zk=f:=⟨_,rfl⟩
     rw [hf] at hf6 HFF hfv
     obtain ⟨hAs,hnb⟩:=HFF
     dsimp only at hAs hnb
     obtain ⟨x,hx⟩:∃ x,memO ⟨nm,ty,nu,op,re,ma⟩ kind' (okT M n (kids j))=x:=⟨_,rfl⟩
     have HBD:=Lib.hid (show (fun i=>decide (placeF m (keys i) < 0) || !memO (fldV m (keys i)) (kids i).kd (okT M n (kids i))) j = !x from by dsimp only;rw [HS.out,HZ.out,decide_eq_false cz,Bool.false_or,hfv,← hx,HKID.out];rfl)
     have C2:=Lib.hid fun wx (hx:Below w.heap.size w wx)=>HK2.out j hjn ty hAs wx hx
     obtain ⟨on,hon⟩:∃ x,(okT M n (kids j)).one ty=x:=⟨_,rfl⟩
     obtain ⟨al,hal⟩:∃ x,(okT M n (kids j)).all ty=x:=⟨_,rfl⟩
     rw [hon,HKID.out] at C2
     unfold VT.agg VT.cells at C2
     have HX:=Lib.hid (show x=(if re=true then decide (kind'=7) && al else if ma=true then decide (kind'=8) && al else on) from by rw [← hx,← hon,← hal];rfl)
     have HAL:=Lib.hid (show al = !anyN (fun i => !(okT M n (kids' i)).one ty) nL' from by rw [← hal,HKID.out,okT_all])
     have C3:=Lib.hid fun (q:Nat) (hq:q < nL') wx (hx:Below w.heap.size w wx)=>(by
      have h:=HK3.out j hjn q (by rw [HKID.out];exact hq) ty hAs wx hx (by
       have hi:=VT.In.below hx _ (HKI.out j hjn)
       rw [HKID.out] at hi ⊢
       exact hi.2.2.1 q hq) (by
       have hr:=HRK.out
       rw [HKID.out] at hr ⊢
       exact (right_parts hr).2.2 q hq)
      rw [HKID.out] at h
      exact h:Calls Tryz.prog 54 #[.slice (some ⟨b,off,none⟩) n c,.string ty,(kids' q).agg] wx fun e w'=>e=.returned (.bool ((okT M n (kids' q)).one ty))∧Below wx.heap.size wx w')
     have F6:=Lib.hid hf6
     have z1:(zk:Int) < (m.nF:Int):=by omega
     have z2:(0:Int)≤(zk:Int):=by omega
     have z5:(zk:Int).toNat=zk:=rfl
     clear hf6 hf hfv hx hon hal hAs hfb
     go_upto_region 9 with fail
     obtain ⟨_,_,_,_,_⟩:=M2.out.all
     obtain ⟨_,_,_,_,_,_⟩:=F6.out.all
     obtain ⟨_,_,_,_,_,_,_,_,_,_⟩:=V2.out.all
     obtain ⟨_,_,_,_,_,_,_,_,_,_⟩:=K2.out.all
     obtain ⟨_,_,_,_⟩:=far_two M2.out.all.1
     obtain ⟨_,_,_,_⟩:=far_two F6.out.all.1
     obtain ⟨_,_,_,_⟩:=far_two V2.out.all.1
     obtain ⟨_,_,_,_⟩:=far_two K2.out.all.1
     have hL':=HKIN.out.subO HKID.out
     go_cut [9,10] (fun s9 s10 wx=>∃ B C,s9=.pointer (some ⟨B,0,none⟩)∧s10=.pointer (some ⟨C,0,none⟩)∧FBx wx B nm ty nu op re ma∧VBx wx C kind' neg' V' bits' text' aL' nL' cL' aK' nK' cK'∧Below w2.heap.size w2 wx)
     case first=>
      go_region
      all_goals (repeat any_goals (first|go_skip|go_guarded|go_step|go_upon|(simp only [];done)))
      all_goals go_meet
      all_goals exact ⟨_,_,rfl,rfl,⟨by simp [go_sem]⟩,⟨by simp [go_sem]⟩,zb2⟩
     case rest=>
      obtain ⟨B3,B4,rfl,rfl,hf3,hv3,hq⟩:=hcut
      obtain ⟨w3,rfl⟩:∃ w3,w3=wc:=⟨_,rfl⟩
      have F3:=Lib.hid hf3
      have X3:=Lib.hid hv3
      have V3:=Lib.hid (V2.out.below hq)
      have hW3:=below_trans hWr2 hq
      have hY3:=below_trans (below_trans hW hw2) hq
      have hY3W:=below_trans hw2 hq
      clear hf3 hv3
      obtain ⟨_,_,_,_,_,_⟩:=F3.out.all
      obtain ⟨_,_,_,_,_,_,_,_,_,_⟩:=X3.out.all
      cases re with
      | false=>
       cases ma with
       | false=>
        obtain rfl:x=on:=HX.out
        cases x with
        | true=>
         repeat any_goals (first|(go_at_call 54;with_reducible refine (C2.out _ hW3).mono ?_;rintro e w4 ⟨rfl,hb4⟩)|go_skip|go_guarded|go_step|go_upon|(dsimp only []))
         go_roundw
         case rel=>exact ⟨j+1,by omega,rfl,by show (anyN _ j || _)=false;rw [H1.out];exact HBD.out,below_trans hY3 hb4⟩
         case measure=>simp [intOf];omega
        | false=>
         obtain rfl:R=false:=by rw [HR2.out,anyN_of (p:=(fun i=>decide (placeF m (keys i) < 0) || !memO (fldV m (keys i)) (kids i).kd (okT M n (kids i)))) HBD.out hjn];rfl
         repeat any_goals (first|(go_at_call 54;with_reducible refine (C2.out _ hW3).mono ?_;rintro e w4 ⟨rfl,hb4⟩)|go_skip|go_guarded|go_step|go_upon|(dsimp only []))
         exact bodyPost_ret (v:=.bool false) z0g1 rfl ⟨rfl,below_trans hW3 hb4⟩
       | true=>
        by_cases ck:kind'=8
        ·have ck1:(kind' == 8)=true:=beq_iff_eq.2 ck
         have ck2:¬ ¬ kind'=8:=fun h=>h ck
         obtain rfl:x=al:=by rw [HX.out];simp [ck]
         subst ck
         repeat any_goals (first|go_skip|go_guarded|go_step|go_upon|(simp only [];done))
         go_loopw [11] (fun i wq=>∃ q:Nat,q≤nL'∧i=.int .i64 q∧anyN (fun i => !(okT M n (kids' i)).one ty) q=false∧Below w3.heap.size w3 wq) (fun i _=>nL' - (intOf i).toNat)
         case atStart=>exact ⟨0,Nat.zero_le _,rfl,rfl,Below.refl _ _⟩
         case round=>
          exact za4zk1
        ·have ck1:(kind' == 8)=false:=beq_false_of_ne ck
         exact za4zk2
      | true=>
       obtain rfl:ma=false:=by cases ma;rfl;cases hnb
       by_cases ck:kind'=7
       ·have ck1:(kind' == 7)=true:=beq_iff_eq.2 ck
        have ck2:¬ ¬ kind'=7:=fun h=>h ck
        obtain rfl:x=al:=by rw [HX.out];simp [ck]
        subst ck
        repeat any_goals (first|go_skip|go_guarded|go_step|go_upon|(simp only [];done))
        go_loopw [11] (fun i wq=>∃ q:Nat,q≤nL'∧i=.int .i64 q∧anyN (fun i => !(okT M n (kids' i)).one ty) q=false∧Below w3.heap.size w3 wq) (fun i _=>nL' - (intOf i).toNat)
        case atStart=>exact ⟨0,Nat.zero_le _,rfl,rfl,Below.refl _ _⟩
        case round=>
         exact za4zk1
       ·have ck1:(kind' == 7)=false:=beq_false_of_ne ck
        exact za4zk2
   ·obtain rfl:j=nK:=by omega
    have i1:¬ (j:Int) < (j:Int):=by omega
    obtain rfl:R=true:=by rw [HR2.out,H1.out];rfl
    repeat any_goals (first|go_skip|go_guarded|go_step|go_upon|(simp only [];done))
    exact bodyPost_ret (v:=.bool true) z0g1 rfl ⟨rfl,hWr⟩
theorem doc_all (M:Nat→PM) (a:Option Addr) (n c:Nat) (hTy:Types M n) (hNB:NoBoth M n):∀ T:VT,ROne M a n c T∧RMsg M a n c T∧(∀ q,q < T.cnt→ROne M a n c (T.sub q)):=by
 intro T
 induction T with
 | nil=>exact ⟨fun _ _ _ _ h=>h.elim,fun _ _ _ _ h=>h.elim,fun _ h=>absurd h (Nat.not_lt_zero _)⟩
 | mk kind neg V bits text aL nL cL kids aK nK cK keys ih=>
  have hm:=rmsg_mk M a n c hTy hNB kind neg V bits text aL nL cL kids aK nK cK keys (fun i _=>(ih i).1) (fun i _=>(ih i).2.2)
  exact ⟨one_mk M a n c kind neg V bits text aL nL cL kids aK nK cK keys hm,hm,fun q _=>(ih q).1⟩
/-- **Valid** of the document -/
theorem RValidM_any (M:Nat→PM) (a:Option Addr) (n c:Nat) (T:VT) (w:World) (hL:PL w a n c M) (hin:T.In w) (hN:T.nodes < 4611686018427387904) :
  Calls Tryz.prog 12 #[.slice a n c,T.agg] w fun e w'=>e=.returned (.bool (validB M n T))∧Below w.heap.size w w':=by
 have HL:=Lib.hid hL
 have HIN:=Lib.hid hin
 obtain ⟨R,hR⟩:∃ R,R=validB M n T:=⟨_,rfl⟩
 rw [← hR]
 obtain ⟨ci,hci⟩:∃ x,checkI M n=x:=⟨_,rfl⟩
 obtain ⟨mi,hmi⟩:∃ x,T.may=x:=⟨_,rfl⟩
 obtain ⟨mg,hmg⟩:∃ x,(okT M n T).msg (M 0)=x:=⟨_,rfl⟩
 have C1:=Lib.hid fun wx (hx:Below w.heap.size w wx)=>RCheck_any a n c M wx (HL.out.below hx)
 have C2:=Lib.hid fun wx (hx:Below w.heap.size w wx)=>RMayV_any T wx (VT.In.below hx _ HIN.out) hN
 have C3:=Lib.hid fun (hc:checkB M n=true) (hr:T.right=true) wx (hx:Below w.heap.size w wx)=>(doc_all M a n c (check_types hc) (check_both hc) T).2.1 0 wx (check_pos hc) (HL.out.below hx) (VT.In.below hx _ HIN.out) hr
 rw [hci] at C1
 rw [hmi] at C2
 rw [hmg] at C3
 have HCI:=Lib.hid (show (ci == 0)=checkB M n from by rw [← hci];exact checkI_eq)
 have HMI:=Lib.hid hmi
 have HV:=Lib.hid (show R=(checkB M n && (decide (mi=0) && mg)) from by rw [hR];unfold validB;rw [hmi,hmg])
 clear hL hN hR hci hmi hmg
 cases T with
 | nil=>exact hin.elim
 | mk kind neg V bits text aL nL cL kids aK nK cK keys=>
  clear hin
  unfold VT.agg VT.cells at C2 C3 ⊢
  go_enter Tryz.func12,Tryz.ntmps12
  go_upto_region 1 with fail
  have V0:=Lib.hid (vbx_new w 31 kind neg V bits text aL nL cL aK nK cK)
  have hW0:=below_alloc (Below.refl w.heap.size w) (.cells #[.int .i64 kind,.bool neg,.int .u64 (lm V 0:Nat),.int .u64 (lm V 1:Nat),.int .u64 (lm V 2:Nat),.int .u64 (lm V 3:Nat),.int .u64 (bits:Nat),.string text,.slice aL nL cL,.slice aK nK cK] 31)
  generalize w.alloc (.cells #[.int .i64 kind,.bool neg,.int .u64 (lm V 0:Nat),.int .u64 (lm V 1:Nat),.int .u64 (lm V 2:Nat),.int .u64 (lm V 3:Nat),.int .u64 (bits:Nat),.string text,.slice aL nL cL,.slice aK nK cK] 31)=w0 at *
  obtain ⟨B0,hB0⟩:∃ B,B=w.heap.size:=⟨_,rfl⟩
  rw [← hB0] at V0 ⊢
  have hB0':=Lib.hid hB0
  clear hB0
  by_cases c1:checkB M n=true
  ·have e1:(ci == 0)=true:=by rw [HCI.out];exact c1
   by_cases c2:mi=0
   ·have e2:(mi == 0)=true:=beq_iff_eq.2 c2
    have hr:=(VT.may_zero.1 (HMI.out.trans c2)).2.2.2
    have C4:Hid (∀ wx:World,Below w.heap.size w wx→Calls Tryz.prog 24 #[.slice a n c,.int .i64 0,.agg #[.int .i64 kind,.bool neg,.int .u64 (lm V 0:Nat),.int .u64 (lm V 1:Nat),.int .u64 (lm V 2:Nat),.int .u64 (lm V 3:Nat),.int .u64 (bits:Nat),.string text,.slice aL nL cL,.slice aK nK cK]] wx fun e w'=>e=.returned (.bool mg)∧Below wx.heap.size wx w'):=Lib.hid (C3.out c1 hr)
    obtain rfl:R=mg:=by rw [HV.out,c1,decide_eq_true c2];rfl
    clear c2 hr
    repeat any_goals (first|(go_at_call 23;with_reducible refine (C1.out _ hW0).mono ?_;rintro e w1 ⟨rfl,hb1⟩;have V1:=Lib.hid (V0.out.below hb1);have hW1:=below_trans hW0 hb1;obtain ⟨_,_,_,_,_,_,_,_,_,_⟩:=V1.out.all)|(go_at_call 15;with_reducible refine (C2.out _ hW1).mono ?_;rintro e w2 ⟨rfl,hb2⟩;have V2:=Lib.hid (V1.out.below hb2);have hW2:=below_trans hW1 hb2;obtain ⟨_,_,_,_,_,_,_,_,_,_⟩:=V2.out.all)|(go_at_call 24;with_reducible refine (C4.out _ hW2).mono ?_;rintro e w3 ⟨rfl,hb3⟩)|go_skip|go_guarded|go_step|go_upon|(dsimp only []))
    exact bodyPost_ret (v:=.bool R) (by simp [results,Tryz.results12,go_sem]) rfl ⟨rfl,below_trans hW2 hb3⟩
   ·have e2:(mi == 0)=false:=beq_false_of_ne c2
    obtain rfl:R=false:=by rw [HV.out,decide_eq_false c2,Bool.false_and,Bool.and_false]
    clear c2
    repeat any_goals (first|(go_at_call 23;with_reducible refine (C1.out _ hW0).mono ?_;rintro e w1 ⟨rfl,hb1⟩;have V1:=Lib.hid (V0.out.below hb1);have hW1:=below_trans hW0 hb1;obtain ⟨_,_,_,_,_,_,_,_,_,_⟩:=V1.out.all)|(go_at_call 15;with_reducible refine (C2.out _ hW1).mono ?_;rintro e w2 ⟨rfl,hb2⟩;have V2:=Lib.hid (V1.out.below hb2);have hW2:=below_trans hW1 hb2;obtain ⟨_,_,_,_,_,_,_,_,_,_⟩:=V2.out.all)|go_skip|go_guarded|go_step|go_upon|(dsimp only []))
    exact bodyPost_ret (v:=.bool false) (by simp [results,Tryz.results12,go_sem]) rfl ⟨rfl,hW2⟩
  ·have e1:(ci == 0)=false:=by rw [HCI.out];exact Bool.eq_false_iff.2 c1
   obtain rfl:R=false:=by rw [HV.out,Bool.eq_false_iff.2 c1];rfl
   repeat any_goals (first|(go_at_call 23;with_reducible refine (C1.out _ hW0).mono ?_;rintro e w1 ⟨rfl,hb1⟩;have V1:=Lib.hid (V0.out.below hb1);have hW1:=below_trans hW0 hb1;obtain ⟨_,_,_,_,_,_,_,_,_,_⟩:=V1.out.all)|go_skip|go_guarded|go_step|go_upon|(dsimp only []))
   exact bodyPost_ret (v:=.bool false) (by simp [results,Tryz.results12,go_sem]) rfl ⟨rfl,hW1⟩
end Go.Proofs.YtfondldmmcmloaaGreatDoor
