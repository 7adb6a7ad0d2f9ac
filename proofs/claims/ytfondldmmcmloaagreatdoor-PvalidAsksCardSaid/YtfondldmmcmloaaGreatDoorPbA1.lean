/- Math, Wh6, DM6, VSame. -/
import Derived.Test.YtfondldmmcmloaaGreatDoorPb22
set_option maxRecDepth 1000000
set_option maxHeartbeats 8000000
namespace Go.Proofs.YtfondldmmcmloaaGreatDoor
open Go Go.RowKit
theorem za1zs1 {p q:Prop} (h:q) (e:q→p:=by intro hq;(try simp only [Act.put,List.setIfInBounds_toArray,List.set_cons_zero,List.set_cons_succ]);exact hq):p:=e h
theorem za1zk1 {p:Prop} (h:p:=by
 subst e
 clear HR
 go_enter Tryz.func13,Tryz.ntmps13
 repeat any_goals (first|go_skip|go_guarded|go_step|go_upon|(simp only [];done))
 exact bodyPost_ret (v:=.bool false) z0d1 rfl ⟨rfl,zb2⟩):p:=h
theorem za1zk2 {p:Prop} (h:p:=by
 (refine wpQuiet_nil ?_;intro w2 hw2;rw [HC.out] at hw2)
 repeat any_goals (first|go_skip|go_guarded|go_step|go_upon|(simp only [];done))
 exact bodyPost_ret (v:=.bool false) z0d1 rfl ⟨rfl,below_trans hW hw2⟩):p:=h
end Go.Proofs.YtfondldmmcmloaaGreatDoor
namespace Go.Proofs.YtfondldmmcmloaaGreatDoor
theorem bl_mono {a b:Nat} (h:a≤b):bl a≤bl b:=(bl_le_iff a _).2 (Nat.lt_of_le_of_lt h (lt_two_pow_bl b))

open Go.RowKit
end Go.Proofs.YtfondldmmcmloaaGreatDoor
namespace Go.Proofs.YtfondldmmcmloaaGreatDoor
theorem cmpV_neg (A B:Nat) : -cmpV A B=cmpV B A:=by
 unfold cmpV
 by_cases h:A < B
 ·rw [if_pos h,if_neg z0c,if_pos h];rfl
 ·by_cases h2:B < A
  ·rw [if_neg h,if_pos h2,if_pos h2]
  ·rw [if_neg h,if_neg h2,if_neg h2,if_neg h];rfl
open Go.RowKit
theorem digl_succ2 (V m:Nat):digl V (m+2)=digl V m ++ [.int .u32 (dig V m:Nat),.int .u32 (dig V (m+1):Nat)]:=by
 unfold digl
 rw [show m+2=(m+1)+1 from rfl,List.range_succ,List.range_succ]
 simp
theorem step_append_own {P:Program} {ops:Array Oper} {o:Oper} {a:Act} {w:World} {K:Act→World→Prop} {Q:Exit→Act→World→Prop} {E:Prop}
  (hg:o.guard=none) (s x:Operand) (t:TypeId) (ho:o.op=.call { callee:=.builtin .append,args:=#[s,x],argTypes:=#[t,t] })
  (base:Nat) (e:TypeId) (i:TypeInfo) (z:Value) (size bytes:Nat) (ht:P.underlying t=some (.slice e)) (hi:P.info? e=some i) (hz:i.zero=some z)
  (hsize:i.size=size) (hby:i.bytes=bytes) (hzs:z.cells.size=size) (hsz:0 < size)
  (v:Value) (n:Nat) (xs:List Value) (hs:a.eval s=v) (hown:w.ownsRow base e size v n xs)
  (ad:Addr) (m c:Nat) (news:List Value) (hx:a.eval x=.slice (some ad) m c) (hl:news.length=m * size) (hnews:∀ j u,news[j]? = some u→w.cell? (ad.add j)=some u) (h1:∀ u ∈ news,u.oneCell'=true)
  (h63:n+m≤maxLen) (hbytes:(n+m) * bytes≤140737488355328) (hbase:base≤w.heap.size)
  (hK:∀ v' w',w'.ownsRow base e size v' (n+m) (xs ++ news)→w.grownBy w' v.ownBlock→K (a.put o.dst v') w') :
  if Region.wanted o (yielded ops a.tmps)=true then Oper.wp P o a w K Q else E:=by
 have hw:Region.wanted o (yielded ops a.tmps)=true:=by simp [Region.wanted,hg]
 rw [if_pos hw]
 exact wp_append_own w s x t ho base e i z size bytes ht hi hz hsize hby hzs hsz v n xs hs hown ad m c news hx hl hnews h1 h63 hbytes hbase fun v' w' h2 h3 _=>hK v' w' h2 h3
theorem two_cells {w:World} {B:Nat} {x y:Value} (c0:w.cell? ⟨B,0,none⟩=some x) (c1:w.cell? ⟨B,1,none⟩=some y):∀ j u,[x,y][j]? = some u→w.cell? ((⟨B,0,none⟩:Addr).add j)=some u:=by
 intro j u hj
 match j,hj with
 | 0,hj=>simp at hj;subst hj;exact c0
 | 1,hj=>simp at hj;subst hj;exact c1
theorem two_one {x y:Int}:∀ u ∈ [Value.int .u32 x,Value.int .u32 y],u.oneCell'=true:=by
 intro u hu
 simp at hu
 rcases hu with rfl|rfl <;> rfl
theorem row_step {w wr w1:World} {v:Value} {n:Nat} {xs:List Value} {e:TypeId} (hown:wr.ownsRow (w.heap.size+1) e 1 v n xs) {o:Obj} (hg:(wr.drew.alloc o).grownBy w1 v.ownBlock) (hb:Below w.heap.size w wr) (hsz:w.heap.size+1≤wr.heap.size) :
  (∀ j x,wr.cell? ⟨w.heap.size,j,none⟩=some x→w1.cell? ⟨w.heap.size,j,none⟩=some x)∧w.heap.size+1≤w1.heap.size∧Below w.heap.size w w1:=by
 have hs:=hg.size
 simp at hs
 have hne:some w.heap.size≠v.ownBlock:=by
  intro h
  have:=(hown.lt _ h.symm).1
  omega
 refine ⟨fun j x hx=>hg.cell ?_ hne,by omega,?_⟩
 ·have:(wr.drew.alloc o).cell? ⟨w.heap.size,j,none⟩=wr.cell? ⟨w.heap.size,j,none⟩:=(((Below.refl _ wr).drew).alloc (Nat.le_refl _) o).cell (p:=⟨w.heap.size,j,none⟩) (by show w.heap.size < wr.heap.size;omega)
  rw [this]
  exact hx
 ·have h2:Below w.heap.size w (wr.drew.alloc o):=(hb.drew).alloc (by show w.heap.size≤wr.heap.size;omega) o
  exact h2.grown hg z0a1 (fun k hk=>by have:=(hown.lt _ hk).1;omega)
/-- **Of.** -/
theorem DOf_any (V:Nat) (hV:V < 2 ^ 256) (w:World) :
  Calls Tryz.prog 109 #[.agg #[.int .u64 (lm (V) 0:Nat),.int .u64 (lm (V) 1:Nat),.int .u64 (lm (V) 2:Nat),.int .u64 (lm (V) 3:Nat)]] w fun e w'=>∃ v,e=.returned v∧IsD w' v V∧Below w.heap.size w w':=by
 obtain ⟨i0,hi,hz0,hz1,hz2⟩:=info_parts infoU32
 go_enter Tryz.func109,Tryz.ntmps109
 repeat any_goals (first|go_skip|go_guarded|go_step|go_upon|(simp only [];done))
 go_loopw [3,4] (fun v i wr=>∃ k:Nat,k≤4∧i=.int .i64 k∧wr.ownsRow (w.heap.size+1) 140 1 v (2 * k) (digl V (2 * k))∧(∀ j,j < 4→wr.cell? ⟨w.heap.size,j,none⟩=some (.int .u64 (lm V j:Nat)))∧w.heap.size+1≤wr.heap.size∧Below w.heap.size w wr)
  (fun _ i _=>4 - (intOf i).toNat)
 case atStart=>
  refine ⟨0,by omega,rfl,World.ownsRow_nil _ _ _ _,?_,by simp,zb2⟩
  intro j hj
  match j,hj with
  | 0,_=>simp [go_sem]
  | 1,_=>simp [go_sem]
  | 2,_=>simp [go_sem]
  | 3,_=>simp [go_sem]
 case round=>
  obtain ⟨k,hk,rfl,hown,hcell,hsz,hbel⟩:=hrel
  have hc:k < 4→wr.cell? ⟨w.heap.size,k,none⟩=some (.int .u64 (lm V k:Nat)):=fun h=>hcell k h
  have hlm:=lm_lt V k
  obtain ⟨lo,hlo⟩:∃ lo,lo=dig V (2 * k):=⟨_,rfl⟩
  obtain ⟨hi',hhi⟩:∃ h,h=dig V (2 * k+1):=⟨_,rfl⟩
  have hlo4:lo < 4294967296:=by rw [hlo];exact dig_lt _ _
  have hhi4:hi' < 4294967296:=by rw [hhi];exact dig_lt _ _
  have e1:IntKind.u32.wrap ((lm V k:Nat):Int)=(lo:Int):=by rw [IntKind.wrap_u32,hlo,← dig_lo];omega
  have e3:IntKind.u32.wrap (hi':Int)=(hi':Int):=by rw [IntKind.wrap_u32];omega
  have e2:((lm V k:Nat):Int) / 4294967296=(hi':Int):=by rw [hhi,← dig_hi];omega
  have C:=Lib.hid hcell
  have HS:=Lib.hid hsz
  have HL:=Lib.hid (And.intro hlo hhi)
  clear hcell hsz hlo hhi
  repeat any_goals (first|go_skip|go_guarded|go_step|go_upon|(simp only [];done))
  ·have hk4:k < 4:=by omega
   have hc2:=hc hk4
   clear hc
   have b1:2 * k+2≤maxLen:=by unfold maxLen;omega
   have b2:(2 * k+2) * 4≤140737488355328:=by omega
   have BH:=Lib.hid (And.intro b1 b2)
   clear b1 b2
   go_region_law (refine step_append_own rfl (.tmp 9) (.tmp 19) 130 rfl (w.heap.size+1) 140 i0 (.int .u32 0) 1 4 Tryz.underlying130 hi hz0 hz1 hz2 rfl z0e u3 (2 * k) _ (by simp [Act.eval]) ((hown.drew).alloc _) ⟨wr.heap.size,0,none⟩ 2 2 [.int .u32 (lo:Int),.int .u32 (hi':Int)] (by simp [Act.eval]) rfl (two_cells z0z z0z) two_one BH.out.1 BH.out.2 (by have:=HS.out;simp;omega) ?_;intro v' w1 hown' hgrow')
   all_goals (
    have R:=row_step hown hgrow' hbel HS.out
    have hown2:w1.ownsRow (w.heap.size+1) 140 1 v' (2 * (k+1)) (digl V (2 * (k+1))):=by
     rw [show 2 * (k+1)=2 * k+2 from by omega,digl_succ2,← HL.out.1,← HL.out.2]
     exact hown'
    have RH:=Lib.hid (And.intro R hown2)
    clear R hown2 hown' hgrow'
    repeat any_goals (first|go_skip|go_guarded|go_step|go_upon|(simp only [];done))
    go_roundw
    case rel=>exact ⟨k+1,by omega,by go_num,RH.out.2,fun j hj=>RH.out.1.1 j _ (C.out j hj),RH.out.1.2.1,RH.out.1.2.2⟩
    case measure=>simp [intOf];omega)
  ·have hk4:k=4:=by omega
   subst hk4
   have hD:DN wr u3 8 V:=DN_own hown hV z0e
   repeat any_goals (first|(go_at_call 125;refine (trim_any _ _ _ _ hD).mono ?_;rintro e w' ⟨⟨v,rfl,hv⟩,rfl⟩)|go_skip|go_guarded|go_step|go_upon|(dsimp only []))
   go_ret
   exact ⟨v,rfl,hv,hbel⟩
theorem eqI_num {n m:Bool} {V U:Nat} (hV:V < 2 ^ 256) (hU:U < 2 ^ 256):eqI n m (lm V 0:Nat) (lm V 1:Nat) (lm V 2:Nat) (lm V 3:Nat) (lm U 0:Nat) (lm U 1:Nat) (lm U 2:Nat) (lm U 3:Nat)=decide (n=m∧V=U):=by
 unfold eqI
 by_cases c:V=U
 ·subst c
  by_cases h:n=m <;> simp [h]
 ·rw [decide_eq_false (fun h=>c h.2),← Bool.not_eq_true]
  intro h
  simp only [Bool.and_eq_true,beq_iff_eq] at h
  exact c (lm_inj hV hU z0c z0c z0c z0c)
theorem RSame_any:∀ (T U:VT) (w:World),T.In w→U.In w→Calls Tryz.prog 13 #[T.agg,U.agg] w fun e w'=>e=.returned (.bool (T.sameB U))∧Below w.heap.size w w':=by
 intro T
 induction T with
 | nil=>exact fun U w h=>h.elim
 | mk kind neg V bits text aL nL cL kids aK nK cK keys ih=>
  intro U w hin hinB
  cases U with
  | nil=>exact hinB.elim
  | mk kindB negB VB bitsB textB aLB nLB cLB kidsB aKB nKB cKB keysB=>
  obtain ⟨o,hL,hk,hKy⟩:=hin
  obtain ⟨oB,hLB,hkB,hKyB⟩:=hinB
  simp only [VT.agg,VT.cells,VT.sameB]
  obtain ⟨R,hR⟩:∃ R,R=(decide (kind=kindB) && decide (neg=negB∧V=VB) && decide (bits=bitsB) && decide (text=textB) && decide (nL=nLB) && decide (nK=nKB) && !anyN (fun i=>decide (keys i≠keysB i)) nK && !anyN (fun i => !(kids i).sameB (kidsB i)) nL):=⟨_,rfl⟩
  rw [← hR]
  have hz:=eqI_num (n:=neg) (m:=negB) o.v oB.v
  obtain ⟨zz,hzz⟩:∃ zz,zz=decide (neg=negB∧V=VB):=⟨_,rfl⟩
  rw [← hzz] at hz hR
  clear hzz
  have HL:=Lib.hid hL
  have HK:=Lib.hid hk
  have HKy:=Lib.hid hKy
  have HLB:=Lib.hid hLB
  have HKB:=Lib.hid hkB
  have HKyB:=Lib.hid hKyB
  have HR:=Lib.hid hR
  have IH:=Lib.hid ih
  have hcL:=o.lc
  have hlL:=o.l
  have hcK:=o.nc
  have hlK:=o.n
  have hcLB:=oB.lc
  have hlLB:=oB.l
  have hcKB:=oB.nc
  have hlKB:=oB.n
  clear hL hk hR ih hKy hLB hkB hKyB o oB
  simp only [maxLen] at hcL hcK hcLB hcKB
  obtain ⟨W0,hW0⟩:∃ W0,W0=(w.alloc (.cells #[.int .i64 kind,.bool neg,.int .u64 (lm V 0:Nat),.int .u64 (lm V 1:Nat),.int .u64 (lm V 2:Nat),.int .u64 (lm V 3:Nat),.int .u64 (bits:Nat),.string text,.slice aL nL cL,.slice aK nK cK] 31)).alloc (.cells #[.int .i64 kindB,.bool negB,.int .u64 (lm VB 0:Nat),.int .u64 (lm VB 1:Nat),.int .u64 (lm VB 2:Nat),.int .u64 (lm VB 3:Nat),.int .u64 (bitsB:Nat),.string textB,.slice aLB nLB cLB,.slice aKB nKB cKB] 31):=⟨_,rfl⟩
  have Va:=Lib.hid (show VBx W0 w.heap.size kind neg V bits text aL nL cL aK nK cK by rw [hW0];exact ⟨by simp [go_sem]⟩)
  have Vb:=Lib.hid (show VBx W0 (w.heap.size+1) kindB negB VB bitsB textB aLB nLB cLB aKB nKB cKB by rw [hW0];exact ⟨by simp [go_sem]⟩)
  have hB0:Below w.heap.size w W0:=by rw [hW0];exact zb2
  have HW:=Lib.hid hW0
  clear hW0
  by_cases e1:kind=kindB
  ·subst e1
   cases zz with
   | false=>
    have e:R=false:=by rw [HR.out];simp
    exact za1zk1
   | true=>
    by_cases e3:bits=bitsB
    ·subst e3
     by_cases e4:text=textB
     ·subst e4
      by_cases e5:nL=nLB
      ·subst e5
       by_cases e6:nK=nKB
       ·subst e6
        have HR2:Hid (R=(!anyN (fun i=>decide (keys i≠keysB i)) nK && !anyN (fun i => !(kids i).sameB (kidsB i)) nL)):=Lib.hid (by rw [HR.out];simp)
        clear HR
        go_enter Tryz.func13,Tryz.ntmps13
        repeat any_goals (first|go_skip|go_guarded|go_step|go_upon|(simp only [];done))
        have hWW:=HW.out
        rw [← hWW]
        go_loopw [5] (fun i wr=>∃ k:Nat,k≤nK∧i=.int .i64 k∧anyN (fun i=>decide (keys i≠keysB i)) k=false∧VBx wr w.heap.size kind neg V bits text aL nL cL aK nK cK∧VBx wr (w.heap.size+1) kind negB VB bits text aLB nL cLB aKB nK cKB∧Below w.heap.size w wr) (fun i _=>nK - (intOf i).toNat)
        case atStart=>exact ⟨0,Nat.zero_le _,rfl,rfl,Va.out,Vb.out,hB0⟩
        case round=>
         clear Va Vb hWW HW hB0
         obtain ⟨k,hk,rfl,hA,hVa,hVb,hW⟩:=hrel
         have HA:=Lib.hid hA
         have Va:=Lib.hid hVa
         have Vb:=Lib.hid hVb
         obtain ⟨_,_,_,_,_,_,_,_,_,_⟩:=hVa.all
         obtain ⟨_,_,_,_,_,_,_,_,_,_⟩:=hVb.all
         clear hA hVa hVb
         by_cases hkn:k < nK
         ·obtain ⟨b,off,rfl,hb,hc,-⟩:=key_lit HKy.out hkn hW
          obtain ⟨b2,off2,rfl,hb2,hc2,-⟩:=key_lit HKyB.out hkn hW
          have K0:=Lib.hid (show SKx wr ⟨b,off+k,none⟩ ⟨b2,off2+k,none⟩ (keys k) (keysB k) from ⟨hc,hc2,trivial,trivial,trivial⟩)
          have i1:(k:Int) < (nK:Int):=by omega
          have i2:(0:Int)≤(k:Int):=by omega
          have i5:(k:Int).toNat=k:=rfl
          clear hc hc2
          by_cases he:keys k=keysB k
          ·have he2:(keys k).toList=(keysB k).toList:=by rw [he]
           have HE:=Lib.hid he
           clear he
           go_upto_region 6 with fail
           (obtain ⟨C_,hC⟩:∃ C:World→Prop,C=fun w'=>Below (wr).heap.size (wr) w':=⟨_,rfl⟩;have HC:=Lib.hid hC;have hne:∀ p:Prop,(∀ w1:World,C_ w1→p)=p:=fun p=>propext ⟨fun h=>h (wr) z0i,fun h _ _=>h⟩;clear hC;refine wp_region_quiet_cls (C:=C_) z0a z0a z0g ?_)
           (go_big_quiet_want;go_big_quiet_op;go_big_quiet_on)
           (go_big_quiet_want;refine ⟨.slice (some ⟨b,off,none⟩) nK cK,fun w1 hw1=>?_,?_⟩;(rw [HC.out] at hw1;obtain ⟨_,_,_,_,_⟩:=(Va.out.below hw1).all;simp [Oper.quietAt,go_sem, *]);refine za1zs1 ?_;go_big_quiet_on)
           (go_big_quiet_want;go_big_quiet_op;go_big_quiet_on)
           (go_big_quiet_want;go_big_quiet_op;go_big_quiet_on)
           (go_big_quiet_want;refine ⟨.string (keys k),fun w1 hw1=>?_,?_⟩;(rw [HC.out] at hw1;obtain ⟨_,_,_,_,_⟩:=(K0.out.below hw1).all;simp [Oper.quietAt,go_sem, *]);refine za1zs1 ?_;go_big_quiet_on)
           (go_big_quiet_want;go_big_quiet_op;go_big_quiet_on)
           (go_big_quiet_want;refine ⟨.slice (some ⟨b2,off2,none⟩) nK cKB,fun w1 hw1=>?_,?_⟩;(rw [HC.out] at hw1;obtain ⟨_,_,_,_,_⟩:=(Vb.out.below hw1).all;simp [Oper.quietAt,go_sem, *]);refine za1zs1 ?_;go_big_quiet_on)
           (go_big_quiet_want;go_big_quiet_op;go_big_quiet_on)
           (go_big_quiet_want;go_big_quiet_op;go_big_quiet_on)
           (go_big_quiet_want;refine ⟨.string (keysB k),fun w1 hw1=>?_,?_⟩;(rw [HC.out] at hw1;obtain ⟨_,_,_,_,_⟩:=(K0.out.below hw1).all;simp [Oper.quietAt,go_sem, *]);refine za1zs1 ?_;go_big_quiet_on)
           (go_big_quiet_want;refine ⟨.bool false,fun w1 hw1=>?_,?_⟩;(rw [HC.out] at hw1;obtain ⟨_,_,_,_,_⟩:=(K0.out.below hw1).all;simp [Oper.quietAt,go_sem, *]);refine za1zs1 ?_;go_big_quiet_on)
           (refine wpQuiet_nil ?_;intro w2 hw2;rw [HC.out] at hw2)
           repeat any_goals (first|go_skip|go_guarded|go_step|go_upon|(simp only [];done))
           go_roundw
           case rel=>exact ⟨k+1,by omega,rfl,by simp only [anyN];rw [HA.out,HE.out];simp,Va.out.below hw2,Vb.out.below hw2,below_trans hW hw2⟩
           case measure=>simp [intOf];omega
          ·have he2:¬ (keys k).toList=(keysB k).toList:=fun h=>he (toList_inj h)
           have e:R=false:=by rw [HR2.out,anyN_of (p:=fun i=>decide (keys i≠keysB i)) (decide_eq_true he) hkn];rfl
           subst e
           clear he
           go_upto_region 6 with fail
           (obtain ⟨C_,hC⟩:∃ C:World→Prop,C=fun w'=>Below (wr).heap.size (wr) w':=⟨_,rfl⟩;have HC:=Lib.hid hC;have hne:∀ p:Prop,(∀ w1:World,C_ w1→p)=p:=fun p=>propext ⟨fun h=>h (wr) z0i,fun h _ _=>h⟩;clear hC;refine wp_region_quiet_cls (C:=C_) z0a z0a z0g ?_)
           (go_big_quiet_want;go_big_quiet_op;go_big_quiet_on)
           (go_big_quiet_want;refine ⟨.slice (some ⟨b,off,none⟩) nK cK,fun w1 hw1=>?_,?_⟩;(rw [HC.out] at hw1;obtain ⟨_,_,_,_,_⟩:=(Va.out.below hw1).all;simp [Oper.quietAt,go_sem, *]);refine za1zs1 ?_;go_big_quiet_on)
           (go_big_quiet_want;go_big_quiet_op;go_big_quiet_on)
           (go_big_quiet_want;go_big_quiet_op;go_big_quiet_on)
           (go_big_quiet_want;refine ⟨.string (keys k),fun w1 hw1=>?_,?_⟩;(rw [HC.out] at hw1;obtain ⟨_,_,_,_,_⟩:=(K0.out.below hw1).all;simp [Oper.quietAt,go_sem, *]);refine za1zs1 ?_;go_big_quiet_on)
           (go_big_quiet_want;go_big_quiet_op;go_big_quiet_on)
           (go_big_quiet_want;refine ⟨.slice (some ⟨b2,off2,none⟩) nK cKB,fun w1 hw1=>?_,?_⟩;(rw [HC.out] at hw1;obtain ⟨_,_,_,_,_⟩:=(Vb.out.below hw1).all;simp [Oper.quietAt,go_sem, *]);refine za1zs1 ?_;go_big_quiet_on)
           (go_big_quiet_want;go_big_quiet_op;go_big_quiet_on)
           (go_big_quiet_want;go_big_quiet_op;go_big_quiet_on)
           (go_big_quiet_want;refine ⟨.string (keysB k),fun w1 hw1=>?_,?_⟩;(rw [HC.out] at hw1;obtain ⟨_,_,_,_,_⟩:=(K0.out.below hw1).all;simp [Oper.quietAt,go_sem, *]);refine za1zs1 ?_;go_big_quiet_on)
           (go_big_quiet_want;refine ⟨.bool true,fun w1 hw1=>?_,?_⟩;(rw [HC.out] at hw1;obtain ⟨_,_,_,_,_⟩:=(K0.out.below hw1).all;simp [Oper.quietAt,go_sem, *]);refine za1zs1 ?_;go_big_quiet_on)
           exact za1zk2
         ·have hk':k=nK:=by omega
          subst hk'
          have i1:¬ (k:Int) < (k:Int):=by omega
          have HR3:Hid (R = !anyN (fun i => !(kids i).sameB (kidsB i)) nL):=Lib.hid (by rw [HR2.out,HA.out];rfl)
          clear HR2 HA
          repeat any_goals (first|go_skip|go_guarded|go_step|go_upon|(simp only [];done))
          go_loopw [6] (fun i wr=>∃ j:Nat,j≤nL∧i=.int .i64 j∧anyN (fun i => !(kids i).sameB (kidsB i)) j=false∧VBx wr w.heap.size kind neg V bits text aL nL cL aK k cK∧VBx wr (w.heap.size+1) kind negB VB bits text aLB nL cLB aKB k cKB∧Below w.heap.size w wr) (fun i _=>nL - (intOf i).toNat)
          case atStart=>exact ⟨0,Nat.zero_le _,rfl,rfl,Va.out,Vb.out,hW⟩
          case round=>
           clear Va Vb hW
           obtain ⟨j,hj,rfl,hA,hVa,hVb,hW⟩:=hrel
           have HA:=Lib.hid hA
           have Va:=Lib.hid hVa
           have Vb:=Lib.hid hVb
           obtain ⟨_,_,_,_,_,_,_,_,_,_⟩:=hVa.all
           obtain ⟨_,_,_,_,_,_,_,_,_,_⟩:=hVb.all
           clear hA hVa hVb
           by_cases hjn:j < nL
           ·obtain ⟨b,off,kind',neg',V',bits',text',aL',nL',cL',kids',aK',nK',cK',keys',rfl,hb,hkid,hc,hin'⟩:=kid_lit HL.out HK.out hjn hW
            obtain ⟨b2,off2,kind'',neg'',V'',bits'',text'',aL'',nL'',cL'',kids'',aK'',nK'',cK'',keys'',rfl,hb2,hkid2,hc2,hin''⟩:=kid_lit HLB.out HKB.out hjn hW
            have K1:=Lib.hid (show KBx wr b (off+j * 10) kind' neg' V' bits' text' aL' nL' cL' aK' nK' cK' from ⟨hc⟩)
            have K2:=Lib.hid (show KBx wr b2 (off2+j * 10) kind'' neg'' V'' bits'' text'' aL'' nL'' cL'' aK'' nK'' cK'' from ⟨hc2⟩)
            have i1:(j:Int) < (nL:Int):=by omega
            have i2:(0:Int)≤(j:Int):=by omega
            have i5:(j:Int).toNat=j:=rfl
            obtain ⟨z,hz2⟩:∃ z:Bool,z=(kids j).sameB (kidsB j):=⟨_,rfl⟩
            have HC:∀ w'':World,Below wr.heap.size wr w''→Calls Tryz.prog 13 #[(kids j).agg,(kidsB j).agg] w'' fun e w'=>e=.returned (.bool z)∧Below w''.heap.size w'' w':=fun w'' hb=>by
             have:=IH.out j (kidsB j) w'' (hin'.below hb) (hin''.below hb)
             rwa [← hz2] at this
            rw [hkid,hkid2] at HC
            simp only [VT.agg,VT.cells] at HC
            have HCK:=Lib.hid HC
            have HX:=Lib.hid hz2
            clear hin' hin'' hkid hkid2 hz2 hc hc2 HC
            cases z with
            | false=>
             have e:R=false:=by rw [HR3.out,anyN_of (p:=fun i => !(kids i).sameB (kidsB i)) (by rw [← HX.out];rfl) hjn];rfl
             subst e
             go_upto_region 11 with fail
             (obtain ⟨C_,hC⟩:∃ C:World→Prop,C=fun w'=>Below (wr).heap.size (wr) w':=⟨_,rfl⟩;have HC:=Lib.hid hC;have hne:∀ p:Prop,(∀ w1:World,C_ w1→p)=p:=fun p=>propext ⟨fun h=>h (wr) z0i,fun h _ _=>h⟩;clear hC;refine wp_region_quiet_cls (C:=C_) z0a z0a z0g ?_)
             (go_big_quiet_want;go_big_quiet_op;go_big_quiet_on)
             (go_big_quiet_want;refine ⟨.slice (some ⟨b,off,none⟩) nL cL,fun w1 hw1=>?_,?_⟩;(rw [HC.out] at hw1;obtain ⟨_,_,_,_,_⟩:=(Va.out.below hw1).all;simp [Oper.quietAt,go_sem, *]);refine za1zs1 ?_;go_big_quiet_on)
             (go_big_quiet_want;go_big_quiet_op;go_big_quiet_on)
             (go_big_quiet_want;go_big_quiet_op;go_big_quiet_on)
             (go_big_quiet_want;refine ⟨.agg #[.int .i64 kind',.bool neg',.int .u64 (lm V' 0:Nat),.int .u64 (lm V' 1:Nat),.int .u64 (lm V' 2:Nat),.int .u64 (lm V' 3:Nat),.int .u64 (bits':Nat),.string text',.slice aL' nL' cL',.slice aK' nK' cK'],fun w1 hw1=>?_,?_⟩;(rw [HC.out] at hw1;obtain ⟨_,_,_,_,_⟩:=(K1.out.below hw1).all;simp [Oper.quietAt,go_sem, *]);refine za1zs1 ?_;go_big_quiet_on)
             (go_big_quiet_want;go_big_quiet_op;go_big_quiet_on)
             (go_big_quiet_want;refine ⟨.slice (some ⟨b2,off2,none⟩) nL cLB,fun w1 hw1=>?_,?_⟩;(rw [HC.out] at hw1;obtain ⟨_,_,_,_,_⟩:=(Vb.out.below hw1).all;simp [Oper.quietAt,go_sem, *]);refine za1zs1 ?_;go_big_quiet_on)
             (go_big_quiet_want;go_big_quiet_op;go_big_quiet_on)
             (go_big_quiet_want;go_big_quiet_op;go_big_quiet_on)
             (go_big_quiet_want;refine ⟨.agg #[.int .i64 kind'',.bool neg'',.int .u64 (lm V'' 0:Nat),.int .u64 (lm V'' 1:Nat),.int .u64 (lm V'' 2:Nat),.int .u64 (lm V'' 3:Nat),.int .u64 (bits'':Nat),.string text'',.slice aL'' nL'' cL'',.slice aK'' nK'' cK''],fun w1 hw1=>?_,?_⟩;(rw [HC.out] at hw1;obtain ⟨_,_,_,_,_⟩:=(K2.out.below hw1).all;simp [Oper.quietAt,go_sem, *]);refine za1zs1 ?_;go_big_quiet_on)
             (go_big_quiet_want;go_big_quiet_op;refine ⟨.bool false,fun w1 hw1=>?_,?_⟩;(rw [HC.out] at hw1 ⊢;with_reducible refine (HCK.out _ hw1).mono ?_;rintro e w4 ⟨rfl,hb4⟩;exact ⟨rfl,below_trans hw1 hb4⟩);go_big_quiet_on)
             (go_big_quiet_want;go_big_quiet_op;go_big_quiet_on)
             exact za1zk2
            | true=>
             go_upto_region 11 with fail
             (obtain ⟨C_,hC⟩:∃ C:World→Prop,C=fun w'=>Below (wr).heap.size (wr) w':=⟨_,rfl⟩;have HC:=Lib.hid hC;have hne:∀ p:Prop,(∀ w1:World,C_ w1→p)=p:=fun p=>propext ⟨fun h=>h (wr) z0i,fun h _ _=>h⟩;clear hC;refine wp_region_quiet_cls (C:=C_) z0a z0a z0g ?_)
             (go_big_quiet_want;go_big_quiet_op;go_big_quiet_on)
             (go_big_quiet_want;refine ⟨.slice (some ⟨b,off,none⟩) nL cL,fun w1 hw1=>?_,?_⟩;(rw [HC.out] at hw1;obtain ⟨_,_,_,_,_⟩:=(Va.out.below hw1).all;simp [Oper.quietAt,go_sem, *]);refine za1zs1 ?_;go_big_quiet_on)
             (go_big_quiet_want;go_big_quiet_op;go_big_quiet_on)
             (go_big_quiet_want;go_big_quiet_op;go_big_quiet_on)
             (go_big_quiet_want;refine ⟨.agg #[.int .i64 kind',.bool neg',.int .u64 (lm V' 0:Nat),.int .u64 (lm V' 1:Nat),.int .u64 (lm V' 2:Nat),.int .u64 (lm V' 3:Nat),.int .u64 (bits':Nat),.string text',.slice aL' nL' cL',.slice aK' nK' cK'],fun w1 hw1=>?_,?_⟩;(rw [HC.out] at hw1;obtain ⟨_,_,_,_,_⟩:=(K1.out.below hw1).all;simp [Oper.quietAt,go_sem, *]);refine za1zs1 ?_;go_big_quiet_on)
             (go_big_quiet_want;go_big_quiet_op;go_big_quiet_on)
             (go_big_quiet_want;refine ⟨.slice (some ⟨b2,off2,none⟩) nL cLB,fun w1 hw1=>?_,?_⟩;(rw [HC.out] at hw1;obtain ⟨_,_,_,_,_⟩:=(Vb.out.below hw1).all;simp [Oper.quietAt,go_sem, *]);refine za1zs1 ?_;go_big_quiet_on)
             (go_big_quiet_want;go_big_quiet_op;go_big_quiet_on)
             (go_big_quiet_want;go_big_quiet_op;go_big_quiet_on)
             (go_big_quiet_want;refine ⟨.agg #[.int .i64 kind'',.bool neg'',.int .u64 (lm V'' 0:Nat),.int .u64 (lm V'' 1:Nat),.int .u64 (lm V'' 2:Nat),.int .u64 (lm V'' 3:Nat),.int .u64 (bits'':Nat),.string text'',.slice aL'' nL'' cL'',.slice aK'' nK'' cK''],fun w1 hw1=>?_,?_⟩;(rw [HC.out] at hw1;obtain ⟨_,_,_,_,_⟩:=(K2.out.below hw1).all;simp [Oper.quietAt,go_sem, *]);refine za1zs1 ?_;go_big_quiet_on)
             (go_big_quiet_want;go_big_quiet_op;refine ⟨.bool true,fun w1 hw1=>?_,?_⟩;(rw [HC.out] at hw1 ⊢;with_reducible refine (HCK.out _ hw1).mono ?_;rintro e w4 ⟨rfl,hb4⟩;exact ⟨rfl,below_trans hw1 hb4⟩);go_big_quiet_on)
             (go_big_quiet_want;go_big_quiet_op;go_big_quiet_on)
             (refine wpQuiet_nil ?_;intro w2 hw2;rw [HC.out] at hw2)
             repeat any_goals (first|go_skip|go_guarded|go_step|go_upon|(simp only [];done))
             go_roundw
             case rel=>exact ⟨j+1,by omega,rfl,by simp only [anyN];rw [HA.out,← HX.out];rfl,Va.out.below hw2,Vb.out.below hw2,below_trans hW hw2⟩
             case measure=>simp [intOf];omega
           ·have hj':j=nL:=by omega
            subst hj'
            have i1:¬ (j:Int) < (j:Int):=by omega
            have e:R=true:=by rw [HR3.out,HA.out];rfl
            subst e
            repeat any_goals (first|go_skip|go_guarded|go_step|go_upon|(simp only [];done))
            exact bodyPost_ret (v:=.bool true) z0d1 rfl ⟨rfl,hW⟩
       ·have n6:((nK:Int) == (nKB:Int))=false:=by simp;omega
        have e:R=false:=by rw [HR.out];simp [e6]
        exact za1zk1
      ·have n5:((nL:Int) == (nLB:Int))=false:=by simp;omega
       have e:R=false:=by rw [HR.out];simp [e5]
       exact za1zk1
     ·have n4:¬ text.toList=textB.toList:=fun h=>e4 (toList_inj h)
      have e:R=false:=by rw [HR.out];simp [e4]
      exact za1zk1
    ·have n3:((bits:Int) == (bitsB:Int))=false:=by simp;omega
     have e:R=false:=by rw [HR.out];simp [e3]
     exact za1zk1
  ·have n1:(kind == kindB)=false:=by simpa using e1
   have e:R=false:=by rw [HR.out];simp [e1]
   exact za1zk1
end Go.Proofs.YtfondldmmcmloaaGreatDoor
