/- VSame, Rh6. -/
import Derived.Test.YtfondldmmcmloaaDoorPd13
set_option maxRecDepth 1000000
set_option maxHeartbeats 8000000
namespace Go.Proofs.YtfondldmmcmloaaDoor
open Go Go.RowKit
theorem z14zs1 {p q:Prop} (h:q) (e:q→p:=by intro hq;(try simp only [Act.put,List.setIfInBounds_toArray,List.set_cons_zero,List.set_cons_succ]);exact hq):p:=e h
theorem z14zk1 {p:Prop} (h:p:=by
 subst e
 clear HR
 go_enter Tryd.func11,Tryd.ntmps11
 repeat any_goals (first|go_skip|go_guarded|go_step|go_upon|(simp only [];done))
 exact bodyPost_ret (v:=.bool false) z0u rfl ⟨rfl,zb2⟩):p:=h
theorem z14zk2 {p:Prop} (h:p:=by
 (refine wpQuiet_nil ?_;intro w2 hw2;rw [HC.out] at hw2)
 repeat any_goals (first|go_skip|go_guarded|go_step|go_upon|(simp only [];done))
 exact bodyPost_ret (v:=.bool false) z0u rfl ⟨rfl,below_trans hW hw2⟩):p:=h
end Go.Proofs.YtfondldmmcmloaaDoor
namespace Go.Proofs.YtfondldmmcmloaaDoor
open Go.RowKit
def VT.sameB:VT→VT→Bool
 | .nil=>fun _=>false
 | .mk kind neg V bits text _ nL _ kids _ nK _ keys=>fun U=>match U with
  | .nil=>false
  | .mk kindB negB VB bitsB textB _ nLB _ kidsB _ nKB _ keysB=>decide (kind=kindB) && decide (neg=negB∧V=VB) && decide (bits=bitsB) && decide (text=textB) && decide (nL=nLB) && decide (nK=nKB) && !anyN (fun i=>decide (keys i≠keysB i)) nK && !anyN (fun i => !(kids i).sameB (kidsB i)) nL
theorem eqI_num {n m:Bool} {V U:Nat} (hV:V < 2 ^ 256) (hU:U < 2 ^ 256):eqI n m (lm V 0:Nat) (lm V 1:Nat) (lm V 2:Nat) (lm V 3:Nat) (lm U 0:Nat) (lm U 1:Nat) (lm U 2:Nat) (lm U 3:Nat)=decide (n=m∧V=U):=by
 unfold eqI
 by_cases c:V=U
 ·subst c
  by_cases h:n=m <;> simp [h]
 ·rw [decide_eq_false (fun h=>c h.2),← Bool.not_eq_true]
  intro h
  simp only [Bool.and_eq_true,beq_iff_eq] at h
  exact c (lm_inj hV hU z0b z0b z0b z0b)
theorem RSame_any:∀ (T U:VT) (w:World),T.In w→U.In w→Calls Tryd.prog 11 #[T.agg,U.agg] w fun e w'=>e=.returned (.bool (T.sameB U))∧Below w.heap.size w w':=by
 intro T
 induction T with
 | nil=>exact fun U w h=>h.elim
 | mk kind neg V bits text aL nL cL kids aK nK cK keys ih=>
  intro U w hin hinB
  cases U with
  | nil=>exact hinB.elim
  | mk kindB negB VB bitsB textB aLB nLB cLB kidsB aKB nKB cKB keysB=>
  obtain ⟨o,hL,hk,hKy⟩:=hin
  obtain ⟨oB,hLB,hkB,hKyB⟩:=hinB
  simp only [VT.agg,VT.cells,VT.sameB]
  obtain ⟨R,hR⟩:∃ R,R=(decide (kind=kindB) && decide (neg=negB∧V=VB) && decide (bits=bitsB) && decide (text=textB) && decide (nL=nLB) && decide (nK=nKB) && !anyN (fun i=>decide (keys i≠keysB i)) nK && !anyN (fun i => !(kids i).sameB (kidsB i)) nL):=⟨_,rfl⟩
  rw [← hR]
  have hz:=eqI_num (n:=neg) (m:=negB) o.v oB.v
  obtain ⟨zz,hzz⟩:∃ zz,zz=decide (neg=negB∧V=VB):=⟨_,rfl⟩
  rw [← hzz] at hz hR
  clear hzz
  have HL:=Lib.hid hL
  have HK:=Lib.hid hk
  have HKy:=Lib.hid hKy
  have HLB:=Lib.hid hLB
  have HKB:=Lib.hid hkB
  have HKyB:=Lib.hid hKyB
  have HR:=Lib.hid hR
  have IH:=Lib.hid ih
  have hcL:=o.lc
  have hlL:=o.l
  have hcK:=o.nc
  have hlK:=o.n
  have hcLB:=oB.lc
  have hlLB:=oB.l
  have hcKB:=oB.nc
  have hlKB:=oB.n
  clear hL hk hR ih hKy hLB hkB hKyB o oB
  simp only [maxLen] at hcL hcK hcLB hcKB
  obtain ⟨W0,hW0⟩:∃ W0,W0=(w.alloc (.cells #[.int .i64 kind,.bool neg,.int .u64 (lm V 0:Nat),.int .u64 (lm V 1:Nat),.int .u64 (lm V 2:Nat),.int .u64 (lm V 3:Nat),.int .u64 (bits:Nat),.string text,.slice aL nL cL,.slice aK nK cK] 35)).alloc (.cells #[.int .i64 kindB,.bool negB,.int .u64 (lm VB 0:Nat),.int .u64 (lm VB 1:Nat),.int .u64 (lm VB 2:Nat),.int .u64 (lm VB 3:Nat),.int .u64 (bitsB:Nat),.string textB,.slice aLB nLB cLB,.slice aKB nKB cKB] 35):=⟨_,rfl⟩
  have Va:=Lib.hid (show VBx W0 w.heap.size kind neg V bits text aL nL cL aK nK cK by rw [hW0];exact ⟨by simp [go_sem]⟩)
  have Vb:=Lib.hid (show VBx W0 (w.heap.size+1) kindB negB VB bitsB textB aLB nLB cLB aKB nKB cKB by rw [hW0];exact ⟨by simp [go_sem]⟩)
  have hB0:Below w.heap.size w W0:=by rw [hW0];exact zb2
  have HW:=Lib.hid hW0
  clear hW0
  by_cases e1:kind=kindB
  ·subst e1
   cases zz with
   | false=>
    have e:R=false:=by rw [HR.out];simp
    exact z14zk1
   | true=>
    by_cases e3:bits=bitsB
    ·subst e3
     by_cases e4:text=textB
     ·subst e4
      by_cases e5:nL=nLB
      ·subst e5
       by_cases e6:nK=nKB
       ·subst e6
        have HR2:Hid (R=(!anyN (fun i=>decide (keys i≠keysB i)) nK && !anyN (fun i => !(kids i).sameB (kidsB i)) nL)):=Lib.hid (by rw [HR.out];simp)
        clear HR
        go_enter Tryd.func11,Tryd.ntmps11
        repeat any_goals (first|go_skip|go_guarded|go_step|go_upon|(simp only [];done))
        have hWW:=HW.out
        rw [← hWW]
        go_loopw [5] (fun i wr=>∃ k:Nat,k≤nK∧i=.int .i64 k∧anyN (fun i=>decide (keys i≠keysB i)) k=false∧VBx wr w.heap.size kind neg V bits text aL nL cL aK nK cK∧VBx wr (w.heap.size+1) kind negB VB bits text aLB nL cLB aKB nK cKB∧Below w.heap.size w wr) (fun i _=>nK - (intOf i).toNat)
        case atStart=>exact ⟨0,Nat.zero_le _,rfl,rfl,Va.out,Vb.out,hB0⟩
        case round=>
         clear Va Vb hWW HW hB0
         obtain ⟨k,hk,rfl,hA,hVa,hVb,hW⟩:=hrel
         have HA:=Lib.hid hA
         have Va:=Lib.hid hVa
         have Vb:=Lib.hid hVb
         obtain ⟨_,_,_,_,_,_,_,_,_,_⟩:=hVa.all
         obtain ⟨_,_,_,_,_,_,_,_,_,_⟩:=hVb.all
         clear hA hVa hVb
         by_cases hkn:k < nK
         ·obtain ⟨b,off,rfl,hb,hc,-⟩:=key_lit HKy.out hkn hW
          obtain ⟨b2,off2,rfl,hb2,hc2,-⟩:=key_lit HKyB.out hkn hW
          have K0:=Lib.hid (show SKx wr ⟨b,off+k,none⟩ ⟨b2,off2+k,none⟩ (keys k) (keysB k) from ⟨hc,hc2,trivial,trivial,trivial⟩)
          have i1:(k:Int) < (nK:Int):=by omega
          have i2:(0:Int)≤(k:Int):=by omega
          have i5:(k:Int).toNat=k:=rfl
          clear hc hc2
          by_cases he:keys k=keysB k
          ·have he2:(keys k).toList=(keysB k).toList:=by rw [he]
           have HE:=Lib.hid he
           clear he
           go_upto_region 6 with fail
           (obtain ⟨C_,hC⟩:∃ C:World→Prop,C=fun w'=>Below (wr).heap.size (wr) w':=⟨_,rfl⟩;have HC:=Lib.hid hC;have hne:∀ p:Prop,(∀ w1:World,C_ w1→p)=p:=fun p=>propext ⟨fun h=>h (wr) z0i,fun h _ _=>h⟩;clear hC;refine wp_region_quiet_cls (C:=C_) z0a z0a z0d ?_)
           (go_big_quiet_want;go_big_quiet_op;go_big_quiet_on)
           (go_big_quiet_want;refine ⟨.slice (some ⟨b,off,none⟩) nK cK,fun w1 hw1=>?_,?_⟩;(rw [HC.out] at hw1;obtain ⟨_,_,_,_,_⟩:=(Va.out.below hw1).all;simp [Oper.quietAt,go_sem, *]);refine z14zs1 ?_;go_big_quiet_on)
           (go_big_quiet_want;go_big_quiet_op;go_big_quiet_on)
           (go_big_quiet_want;go_big_quiet_op;go_big_quiet_on)
           (go_big_quiet_want;refine ⟨.string (keys k),fun w1 hw1=>?_,?_⟩;(rw [HC.out] at hw1;obtain ⟨_,_,_,_,_⟩:=(K0.out.below hw1).all;simp [Oper.quietAt,go_sem, *]);refine z14zs1 ?_;go_big_quiet_on)
           (go_big_quiet_want;go_big_quiet_op;go_big_quiet_on)
           (go_big_quiet_want;refine ⟨.slice (some ⟨b2,off2,none⟩) nK cKB,fun w1 hw1=>?_,?_⟩;(rw [HC.out] at hw1;obtain ⟨_,_,_,_,_⟩:=(Vb.out.below hw1).all;simp [Oper.quietAt,go_sem, *]);refine z14zs1 ?_;go_big_quiet_on)
           (go_big_quiet_want;go_big_quiet_op;go_big_quiet_on)
           (go_big_quiet_want;go_big_quiet_op;go_big_quiet_on)
           (go_big_quiet_want;refine ⟨.string (keysB k),fun w1 hw1=>?_,?_⟩;(rw [HC.out] at hw1;obtain ⟨_,_,_,_,_⟩:=(K0.out.below hw1).all;simp [Oper.quietAt,go_sem, *]);refine z14zs1 ?_;go_big_quiet_on)
           (go_big_quiet_want;refine ⟨.bool false,fun w1 hw1=>?_,?_⟩;(rw [HC.out] at hw1;obtain ⟨_,_,_,_,_⟩:=(K0.out.below hw1).all;simp [Oper.quietAt,go_sem, *]);refine z14zs1 ?_;go_big_quiet_on)
           (refine wpQuiet_nil ?_;intro w2 hw2;rw [HC.out] at hw2)
           repeat any_goals (first|go_skip|go_guarded|go_step|go_upon|(simp only [];done))
           go_roundw
           case rel=>exact ⟨k+1,by omega,rfl,by simp only [anyN];rw [HA.out,HE.out];simp,Va.out.below hw2,Vb.out.below hw2,below_trans hW hw2⟩
           case measure=>simp [intOf];omega
          ·have he2:¬ (keys k).toList=(keysB k).toList:=fun h=>he (toList_inj h)
           have e:R=false:=by rw [HR2.out,anyN_of (p:=fun i=>decide (keys i≠keysB i)) (decide_eq_true he) hkn];rfl
           subst e
           clear he
           go_upto_region 6 with fail
           (obtain ⟨C_,hC⟩:∃ C:World→Prop,C=fun w'=>Below (wr).heap.size (wr) w':=⟨_,rfl⟩;have HC:=Lib.hid hC;have hne:∀ p:Prop,(∀ w1:World,C_ w1→p)=p:=fun p=>propext ⟨fun h=>h (wr) z0i,fun h _ _=>h⟩;clear hC;refine wp_region_quiet_cls (C:=C_) z0a z0a z0d ?_)
           (go_big_quiet_want;go_big_quiet_op;go_big_quiet_on)
           (go_big_quiet_want;refine ⟨.slice (some ⟨b,off,none⟩) nK cK,fun w1 hw1=>?_,?_⟩;(rw [HC.out] at hw1;obtain ⟨_,_,_,_,_⟩:=(Va.out.below hw1).all;simp [Oper.quietAt,go_sem, *]);refine z14zs1 ?_;go_big_quiet_on)
           (go_big_quiet_want;go_big_quiet_op;go_big_quiet_on)
           (go_big_quiet_want;go_big_quiet_op;go_big_quiet_on)
           (go_big_quiet_want;refine ⟨.string (keys k),fun w1 hw1=>?_,?_⟩;(rw [HC.out] at hw1;obtain ⟨_,_,_,_,_⟩:=(K0.out.below hw1).all;simp [Oper.quietAt,go_sem, *]);refine z14zs1 ?_;go_big_quiet_on)
           (go_big_quiet_want;go_big_quiet_op;go_big_quiet_on)
           (go_big_quiet_want;refine ⟨.slice (some ⟨b2,off2,none⟩) nK cKB,fun w1 hw1=>?_,?_⟩;(rw [HC.out] at hw1;obtain ⟨_,_,_,_,_⟩:=(Vb.out.below hw1).all;simp [Oper.quietAt,go_sem, *]);refine z14zs1 ?_;go_big_quiet_on)
           (go_big_quiet_want;go_big_quiet_op;go_big_quiet_on)
           (go_big_quiet_want;go_big_quiet_op;go_big_quiet_on)
           (go_big_quiet_want;refine ⟨.string (keysB k),fun w1 hw1=>?_,?_⟩;(rw [HC.out] at hw1;obtain ⟨_,_,_,_,_⟩:=(K0.out.below hw1).all;simp [Oper.quietAt,go_sem, *]);refine z14zs1 ?_;go_big_quiet_on)
           (go_big_quiet_want;refine ⟨.bool true,fun w1 hw1=>?_,?_⟩;(rw [HC.out] at hw1;obtain ⟨_,_,_,_,_⟩:=(K0.out.below hw1).all;simp [Oper.quietAt,go_sem, *]);refine z14zs1 ?_;go_big_quiet_on)
           exact z14zk2
         ·have hk':k=nK:=by omega
          subst hk'
          have i1:¬ (k:Int) < (k:Int):=by omega
          have HR3:Hid (R = !anyN (fun i => !(kids i).sameB (kidsB i)) nL):=Lib.hid (by rw [HR2.out,HA.out];rfl)
          clear HR2 HA
          repeat any_goals (first|go_skip|go_guarded|go_step|go_upon|(simp only [];done))
          go_loopw [6] (fun i wr=>∃ j:Nat,j≤nL∧i=.int .i64 j∧anyN (fun i => !(kids i).sameB (kidsB i)) j=false∧VBx wr w.heap.size kind neg V bits text aL nL cL aK k cK∧VBx wr (w.heap.size+1) kind negB VB bits text aLB nL cLB aKB k cKB∧Below w.heap.size w wr) (fun i _=>nL - (intOf i).toNat)
          case atStart=>exact ⟨0,Nat.zero_le _,rfl,rfl,Va.out,Vb.out,hW⟩
          case round=>
           clear Va Vb hW
           obtain ⟨j,hj,rfl,hA,hVa,hVb,hW⟩:=hrel
           have HA:=Lib.hid hA
           have Va:=Lib.hid hVa
           have Vb:=Lib.hid hVb
           obtain ⟨_,_,_,_,_,_,_,_,_,_⟩:=hVa.all
           obtain ⟨_,_,_,_,_,_,_,_,_,_⟩:=hVb.all
           clear hA hVa hVb
           by_cases hjn:j < nL
           ·obtain ⟨b,off,kind',neg',V',bits',text',aL',nL',cL',kids',aK',nK',cK',keys',rfl,hb,hkid,hc,hin'⟩:=kid_lit HL.out HK.out hjn hW
            obtain ⟨b2,off2,kind'',neg'',V'',bits'',text'',aL'',nL'',cL'',kids'',aK'',nK'',cK'',keys'',rfl,hb2,hkid2,hc2,hin''⟩:=kid_lit HLB.out HKB.out hjn hW
            have K1:=Lib.hid (show KBx wr b (off+j * 10) kind' neg' V' bits' text' aL' nL' cL' aK' nK' cK' from ⟨hc⟩)
            have K2:=Lib.hid (show KBx wr b2 (off2+j * 10) kind'' neg'' V'' bits'' text'' aL'' nL'' cL'' aK'' nK'' cK'' from ⟨hc2⟩)
            have i1:(j:Int) < (nL:Int):=by omega
            have i2:(0:Int)≤(j:Int):=by omega
            have i5:(j:Int).toNat=j:=rfl
            obtain ⟨z,hz2⟩:∃ z:Bool,z=(kids j).sameB (kidsB j):=⟨_,rfl⟩
            have HC:∀ w'':World,Below wr.heap.size wr w''→Calls Tryd.prog 11 #[(kids j).agg,(kidsB j).agg] w'' fun e w'=>e=.returned (.bool z)∧Below w''.heap.size w'' w':=fun w'' hb=>by
             have:=IH.out j (kidsB j) w'' (hin'.below hb) (hin''.below hb)
             rwa [← hz2] at this
            rw [hkid,hkid2] at HC
            simp only [VT.agg,VT.cells] at HC
            have HCK:=Lib.hid HC
            have HX:=Lib.hid hz2
            clear hin' hin'' hkid hkid2 hz2 hc hc2 HC
            cases z with
            | false=>
             have e:R=false:=by rw [HR3.out,anyN_of (p:=fun i => !(kids i).sameB (kidsB i)) (by rw [← HX.out];rfl) hjn];rfl
             subst e
             go_upto_region 11 with fail
             (obtain ⟨C_,hC⟩:∃ C:World→Prop,C=fun w'=>Below (wr).heap.size (wr) w':=⟨_,rfl⟩;have HC:=Lib.hid hC;have hne:∀ p:Prop,(∀ w1:World,C_ w1→p)=p:=fun p=>propext ⟨fun h=>h (wr) z0i,fun h _ _=>h⟩;clear hC;refine wp_region_quiet_cls (C:=C_) z0a z0a z0d ?_)
             (go_big_quiet_want;go_big_quiet_op;go_big_quiet_on)
             (go_big_quiet_want;refine ⟨.slice (some ⟨b,off,none⟩) nL cL,fun w1 hw1=>?_,?_⟩;(rw [HC.out] at hw1;obtain ⟨_,_,_,_,_⟩:=(Va.out.below hw1).all;simp [Oper.quietAt,go_sem, *]);refine z14zs1 ?_;go_big_quiet_on)
             (go_big_quiet_want;go_big_quiet_op;go_big_quiet_on)
             (go_big_quiet_want;go_big_quiet_op;go_big_quiet_on)
             (go_big_quiet_want;refine ⟨.agg #[.int .i64 kind',.bool neg',.int .u64 (lm V' 0:Nat),.int .u64 (lm V' 1:Nat),.int .u64 (lm V' 2:Nat),.int .u64 (lm V' 3:Nat),.int .u64 (bits':Nat),.string text',.slice aL' nL' cL',.slice aK' nK' cK'],fun w1 hw1=>?_,?_⟩;(rw [HC.out] at hw1;obtain ⟨_,_,_,_,_⟩:=(K1.out.below hw1).all;simp [Oper.quietAt,go_sem, *]);refine z14zs1 ?_;go_big_quiet_on)
             (go_big_quiet_want;go_big_quiet_op;go_big_quiet_on)
             (go_big_quiet_want;refine ⟨.slice (some ⟨b2,off2,none⟩) nL cLB,fun w1 hw1=>?_,?_⟩;(rw [HC.out] at hw1;obtain ⟨_,_,_,_,_⟩:=(Vb.out.below hw1).all;simp [Oper.quietAt,go_sem, *]);refine z14zs1 ?_;go_big_quiet_on)
             (go_big_quiet_want;go_big_quiet_op;go_big_quiet_on)
             (go_big_quiet_want;go_big_quiet_op;go_big_quiet_on)
             (go_big_quiet_want;refine ⟨.agg #[.int .i64 kind'',.bool neg'',.int .u64 (lm V'' 0:Nat),.int .u64 (lm V'' 1:Nat),.int .u64 (lm V'' 2:Nat),.int .u64 (lm V'' 3:Nat),.int .u64 (bits'':Nat),.string text'',.slice aL'' nL'' cL'',.slice aK'' nK'' cK''],fun w1 hw1=>?_,?_⟩;(rw [HC.out] at hw1;obtain ⟨_,_,_,_,_⟩:=(K2.out.below hw1).all;simp [Oper.quietAt,go_sem, *]);refine z14zs1 ?_;go_big_quiet_on)
             (go_big_quiet_want;go_big_quiet_op;refine ⟨.bool false,fun w1 hw1=>?_,?_⟩;(rw [HC.out] at hw1 ⊢;with_reducible refine (HCK.out _ hw1).mono ?_;rintro e w4 ⟨rfl,hb4⟩;exact ⟨rfl,below_trans hw1 hb4⟩);go_big_quiet_on)
             (go_big_quiet_want;go_big_quiet_op;go_big_quiet_on)
             exact z14zk2
            | true=>
             go_upto_region 11 with fail
             (obtain ⟨C_,hC⟩:∃ C:World→Prop,C=fun w'=>Below (wr).heap.size (wr) w':=⟨_,rfl⟩;have HC:=Lib.hid hC;have hne:∀ p:Prop,(∀ w1:World,C_ w1→p)=p:=fun p=>propext ⟨fun h=>h (wr) z0i,fun h _ _=>h⟩;clear hC;refine wp_region_quiet_cls (C:=C_) z0a z0a z0d ?_)
             (go_big_quiet_want;go_big_quiet_op;go_big_quiet_on)
             (go_big_quiet_want;refine ⟨.slice (some ⟨b,off,none⟩) nL cL,fun w1 hw1=>?_,?_⟩;(rw [HC.out] at hw1;obtain ⟨_,_,_,_,_⟩:=(Va.out.below hw1).all;simp [Oper.quietAt,go_sem, *]);refine z14zs1 ?_;go_big_quiet_on)
             (go_big_quiet_want;go_big_quiet_op;go_big_quiet_on)
             (go_big_quiet_want;go_big_quiet_op;go_big_quiet_on)
             (go_big_quiet_want;refine ⟨.agg #[.int .i64 kind',.bool neg',.int .u64 (lm V' 0:Nat),.int .u64 (lm V' 1:Nat),.int .u64 (lm V' 2:Nat),.int .u64 (lm V' 3:Nat),.int .u64 (bits':Nat),.string text',.slice aL' nL' cL',.slice aK' nK' cK'],fun w1 hw1=>?_,?_⟩;(rw [HC.out] at hw1;obtain ⟨_,_,_,_,_⟩:=(K1.out.below hw1).all;simp [Oper.quietAt,go_sem, *]);refine z14zs1 ?_;go_big_quiet_on)
             (go_big_quiet_want;go_big_quiet_op;go_big_quiet_on)
             (go_big_quiet_want;refine ⟨.slice (some ⟨b2,off2,none⟩) nL cLB,fun w1 hw1=>?_,?_⟩;(rw [HC.out] at hw1;obtain ⟨_,_,_,_,_⟩:=(Vb.out.below hw1).all;simp [Oper.quietAt,go_sem, *]);refine z14zs1 ?_;go_big_quiet_on)
             (go_big_quiet_want;go_big_quiet_op;go_big_quiet_on)
             (go_big_quiet_want;go_big_quiet_op;go_big_quiet_on)
             (go_big_quiet_want;refine ⟨.agg #[.int .i64 kind'',.bool neg'',.int .u64 (lm V'' 0:Nat),.int .u64 (lm V'' 1:Nat),.int .u64 (lm V'' 2:Nat),.int .u64 (lm V'' 3:Nat),.int .u64 (bits'':Nat),.string text'',.slice aL'' nL'' cL'',.slice aK'' nK'' cK''],fun w1 hw1=>?_,?_⟩;(rw [HC.out] at hw1;obtain ⟨_,_,_,_,_⟩:=(K2.out.below hw1).all;simp [Oper.quietAt,go_sem, *]);refine z14zs1 ?_;go_big_quiet_on)
             (go_big_quiet_want;go_big_quiet_op;refine ⟨.bool true,fun w1 hw1=>?_,?_⟩;(rw [HC.out] at hw1 ⊢;with_reducible refine (HCK.out _ hw1).mono ?_;rintro e w4 ⟨rfl,hb4⟩;exact ⟨rfl,below_trans hw1 hb4⟩);go_big_quiet_on)
             (go_big_quiet_want;go_big_quiet_op;go_big_quiet_on)
             (refine wpQuiet_nil ?_;intro w2 hw2;rw [HC.out] at hw2)
             repeat any_goals (first|go_skip|go_guarded|go_step|go_upon|(simp only [];done))
             go_roundw
             case rel=>exact ⟨j+1,by omega,rfl,by simp only [anyN];rw [HA.out,← HX.out];rfl,Va.out.below hw2,Vb.out.below hw2,below_trans hW hw2⟩
             case measure=>simp [intOf];omega
           ·have hj':j=nL:=by omega
            subst hj'
            have i1:¬ (j:Int) < (j:Int):=by omega
            have e:R=true:=by rw [HR3.out,HA.out];rfl
            subst e
            repeat any_goals (first|go_skip|go_guarded|go_step|go_upon|(simp only [];done))
            exact bodyPost_ret (v:=.bool true) z0u rfl ⟨rfl,hW⟩
       ·have n6:((nK:Int) == (nKB:Int))=false:=by simp;omega
        have e:R=false:=by rw [HR.out];simp [e6]
        exact z14zk1
      ·have n5:((nL:Int) == (nLB:Int))=false:=by simp;omega
       have e:R=false:=by rw [HR.out];simp [e5]
       exact z14zk1
     ·have n4:¬ text.toList=textB.toList:=fun h=>e4 (toList_inj h)
      have e:R=false:=by rw [HR.out];simp [e4]
      exact z14zk1
    ·have n3:((bits:Int) == (bitsB:Int))=false:=by simp;omega
     have e:R=false:=by rw [HR.out];simp [e3]
     exact z14zk1
  ·have n1:(kind == kindB)=false:=by simpa using e1
   have e:R=false:=by rw [HR.out];simp [e1]
   exact z14zk1
theorem IsD.below {w1 w2:World} {v:Value} {V:Nat} (h:IsD w1 v V) (hb:Below w1.heap.size w1 w2):IsD w2 v V:=DN.below h hb
theorem IsD.alloc {w1:World} {v:Value} {V:Nat} (h:IsD w1 v V) (o:Obj):IsD (w1.alloc o) v V:=DN.alloc h o
theorem IsD.step {w1 w2:World} {v:Value} {V:Nat} {o:Obj} (h:IsD w1 v V) (hb:Below (w1.alloc o).heap.size (w1.alloc o) w2):IsD w2 v V:=(h.alloc o).below hb
theorem ROfInt_neg (v:Int) (u:Int) (hv:v < 0) (e:IntKind.u64.wrap (IntKind.u64.wrap (wrap64 (-wrap64 (v+1)))+1)=u) (w:World) :
  Calls Tryd.prog 6 #[.int .i64 v] w fun e w'=>e=.returned (.agg #[.bool true,.int .u64 u,.int .u64 0,.int .u64 0,.int .u64 0])∧Below w.heap.size w w':=by
 go_enter Tryd.func6,Tryd.ntmps6
 repeat any_goals (first|go_skip|go_guarded|go_step|go_upon|(simp only [];done))
 refine bodyPost_ret (v:=.agg #[.bool true,.int .u64 u,.int .u64 0,.int .u64 0,.int .u64 0]) ?_ rfl ⟨rfl,zb2⟩
 simp [results,Tryd.results6,go_sem, *]
theorem ROfInt_pos (v:Int) (u:Int) (hv:0≤v) (e:IntKind.u64.wrap v=u) (w:World) :
  Calls Tryd.prog 6 #[.int .i64 v] w fun e w'=>e=.returned (.agg #[.bool false,.int .u64 u,.int .u64 0,.int .u64 0,.int .u64 0])∧Below w.heap.size w w':=by
 go_enter Tryd.func6,Tryd.ntmps6
 repeat any_goals (first|go_skip|go_guarded|go_step|go_upon|(simp only [];done))
 refine bodyPost_ret (v:=.agg #[.bool false,.int .u64 u,.int .u64 0,.int .u64 0,.int .u64 0]) ?_ rfl ⟨rfl,zb2⟩
 simp [results,Tryd.results6,go_sem, *]
theorem ROfU_walk (u:Int) (w:World) :
  Calls Tryd.prog 7 #[.int .u64 u] w fun e w'=>e=.returned (.agg #[.bool false,.int .u64 u,.int .u64 0,.int .u64 0,.int .u64 0])∧Below w.heap.size w w':=by
 go_enter Tryd.func7,Tryd.ntmps7
 repeat any_goals (first|go_skip|go_guarded|go_step|go_upon|(simp only [];done))
 refine bodyPost_ret (v:=.agg #[.bool false,.int .u64 u,.int .u64 0,.int .u64 0,.int .u64 0]) ?_ rfl ⟨rfl,zb2⟩
 simp [results,Tryd.results7,go_sem, *]
theorem ROfI_any (v:Int) (h0 : -9223372036854775808≤v) (h1:v < 9223372036854775808) (w:World) :
  Calls Tryd.prog 6 #[.int .i64 v] w fun e w'=>e=.returned (.agg #[.bool (sg v ),.int .u64 (lm ( ab v) 0:Nat),.int .u64 (lm ( ab v) 1:Nat),.int .u64 (lm ( ab v) 2:Nat),.int .u64 (lm ( ab v) 3:Nat)])∧Below w.heap.size w w':=by
 have hu:ab v < 18446744073709551616:=by unfold ab;omega
 obtain ⟨q0,q1,q2,q3⟩:=lm_small hu
 rw [q0,q1,q2,q3]
 by_cases c:v < 0
 ·rw [show sg v=true from decide_eq_true c]
  refine ROfInt_neg v _ c ?_ w
  rw [IntKind.wrap_u64,IntKind.wrap_u64]
  simp only [wrap64]
  unfold ab
  omega
 ·rw [show sg v=false from decide_eq_false c]
  refine ROfInt_pos v _ z0b ?_ w
  rw [IntKind.wrap_u64]
  unfold ab
  omega
theorem ROfU_any (u:Nat) (hu:u < 18446744073709551616) (w:World) :
  Calls Tryd.prog 7 #[.int .u64 (u:Int)] w fun e w'=>e=.returned (.agg #[.bool (false ),.int .u64 (lm ( u) 0:Nat),.int .u64 (lm ( u) 1:Nat),.int .u64 (lm ( u) 2:Nat),.int .u64 (lm ( u) 3:Nat)])∧Below w.heap.size w w':=by
 obtain ⟨q0,q1,q2,q3⟩:=lm_small hu
 rw [q0,q1,q2,q3]
 exact ROfU_walk _ w
end Go.Proofs.YtfondldmmcmloaaDoor
