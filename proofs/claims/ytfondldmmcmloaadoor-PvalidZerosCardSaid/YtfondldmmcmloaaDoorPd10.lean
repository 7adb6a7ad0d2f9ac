/- PD. -/
import Derived.Test.YtfondldmmcmloaaDoorPd9
set_option maxRecDepth 1000000
set_option maxHeartbeats 8000000
namespace Go.Proofs.YtfondldmmcmloaaDoor
open Go Go.RowKit
theorem z10zk1 {p:Prop} (h:p:=by
 have e:A=true:=by rw [hA2];simp [*]
 clear hA2
 subst e
 (try have cp1:(z3 == (k:Int))=true:=beq_iff_eq.2 cp)
 (try have cp2:(z3 == (k:Int))=false:=beq_false_of_ne cp)
 (try have d1:(50:Int) < (m.nF:Int):=by omega)
 (try have d2:¬ (50:Int) < (m.nF:Int):=by omega)
 (try have d3:(100:Int) < (m.nN:Int):=by omega)
 (try have d4:¬ (100:Int) < (m.nN:Int):=by omega)
 (try have d5:(100:Int) < (m.nS:Int):=by omega)
 (try have d6:¬ (100:Int) < (m.nS:Int):=by omega)
 (try subst cp)
 repeat any_goals (first|(go_at_call 23;with_reducible refine (C1.out _).mono ?_;rintro e w3 ⟨rfl,rfl⟩)|(go_at_call 27;with_reducible refine (C2.out _).mono ?_;rintro e w4 ⟨rfl,hb4⟩;have Mq:=Lib.hid (M1.out.below hb4);obtain ⟨_,_,_,_⟩:=Mq.out.all;have Xq:=Lib.hid (below_trans hW1 hb4))|(go_at_call 28;with_reducible refine (C3.out _ Xq.out).mono ?_;rintro e w5 ⟨rfl,rfl⟩)|go_skip|go_guarded|go_step|go_upon|(dsimp only []))
 go_meet
 case rel=>exact ⟨rfl,by (first|exact hb4|exact hq0)⟩):p:=h
theorem z10zk2 {p:Prop} (h:p:=by
 repeat any_goals (first|go_skip|go_guarded|go_step|go_upon|(simp only [];done))
 exact bodyPost_ret (v:=.int .i64 7) z0y rfl ⟨by rw [check_bad (by rw [HMB.out,anyN_of (p:=fun j=>numBad (m.N j)) hb hjn];rfl) hkn],hW2⟩):p:=h
end Go.Proofs.YtfondldmmcmloaaDoor
namespace Go.Proofs.YtfondldmmcmloaaDoor
open Go.RowKit
def keptB (s:ByteArray):Bool:=s.toList == [111,112,116,105,111,110,97,108] || (s.toList == [114,101,112,101,97,116,101,100] || s.toList == [114,101,115,101,114,118,101,100])
def headBad (M:Nat→PM) (n i:Nat) (m:PM):Bool:=
 !named m.name || (scalarB m.name || (keptB m.name || (!decide (placeM M n m.name=(i:Int)) || (decide (50 < m.nF) || (decide (100 < m.nN) || decide (100 < m.nS))))))
def msgBad (M:Nat→PM) (n i:Nat):Bool:=headBad M n i (M i) || (anyN (fun j=>numBad ((M i).N j)) (M i).nN || (anyN (fun j => !named ((M i).S j)) (M i).nS || !fieldsB M n (M i)))
def checkB (M:Nat→PM) (n:Nat):Bool:=decide (1≤n) && (decide (n≤50) && !anyN (msgBad M n) n)
def checkI (M:Nat→PM) (n:Nat):Int:=if checkB M n=true then 0 else 7
theorem check_few {M:Nat→PM} {n:Nat} (h:n < 1∨50 < n):checkI M n=7:=by
 unfold checkI checkB
 rcases h with h|h
 ·rw [decide_eq_false (show ¬ 1≤n by omega)];rfl
 ·rw [decide_eq_false (show ¬ n≤50 by omega),Bool.false_and,Bool.and_false];rfl
theorem check_bad {M:Nat→PM} {n i:Nat} (h:msgBad M n i=true) (hi:i < n):checkI M n=7:=by
 unfold checkI checkB
 rw [anyN_of h hi,Bool.not_true,Bool.and_false,Bool.and_false]
 rfl
theorem check_good {M:Nat→PM} {n:Nat} (h1:1≤n) (h2:n≤50) (h:anyN (msgBad M n) n=false):checkI M n=0:=by
 unfold checkI checkB
 rw [h,decide_eq_true h1,decide_eq_true h2]
 rfl
/-- **Check** of the document -/
theorem RCheck_any (a:Option Addr) (n c:Nat) (M:Nat→PM) (w:World) (h:PL w a n c M) :
  Calls Tryd.prog 18 #[.slice a n c] w fun e w'=>e=.returned (.int .i64 (checkI M n))∧Below w.heap.size w w':=by
 have H:=Lib.hid h
 have q1:=h.l
 have q2:=h.lc
 simp only [maxLen] at q2
 clear h
 go_enter Tryd.func18,Tryd.ntmps18
 by_cases h1:(n:Int) < 1
 ·repeat any_goals (first|go_skip|go_guarded|go_step|go_upon|(simp only [];done))
  exact bodyPost_ret (v:=.int .i64 7) z0y rfl ⟨by rw [check_few (.inl z0b)],zb2⟩
 by_cases h2:(50:Int) < (n:Int)
 ·repeat any_goals (first|go_skip|go_guarded|go_step|go_upon|(simp only [];done))
  exact bodyPost_ret (v:=.int .i64 7) z0y rfl ⟨by rw [check_few (.inr z0b)],zb2⟩
 repeat any_goals (first|go_skip|go_guarded|go_step|go_upon|(simp only [];done))
 go_loopw [3] (fun i wr=>∃ k:Nat,k≤n∧i=.int .i64 k∧anyN (msgBad M n) k=false∧Below w.heap.size w wr) (fun i _=>n - (intOf i).toNat)
 case atStart=>exact ⟨0,Nat.zero_le _,rfl,rfl,Below.refl _ _⟩
 case round=>
  obtain ⟨k,hk,rfl,hA,hW⟩:=hrel
  have HA:=Lib.hid hA
  clear hA
  by_cases hkn:k < n
  ·obtain ⟨b,off,rfl,hbl,hm,hin⟩:=m_lit H.out hkn hW
   obtain ⟨m,hmk⟩:∃ m,M k=m:=⟨_,rfl⟩
   rw [hmk] at hm hin
   have HIN:=Lib.hid hin
   obtain ⟨x1,hx1⟩:∃ x,named m.name=x:=⟨_,rfl⟩
   obtain ⟨x2,hx2⟩:∃ x,scalarB m.name=x:=⟨_,rfl⟩
   obtain ⟨z3,hz3⟩:∃ z,placeM M n m.name=z:=⟨_,rfl⟩
   obtain ⟨b1,hb1⟩:∃ x,(m.name.toList == [111,112,116,105,111,110,97,108])=x:=⟨_,rfl⟩
   obtain ⟨b2,hb2⟩:∃ x,(m.name.toList == [114,101,112,101,97,116,101,100])=x:=⟨_,rfl⟩
   obtain ⟨b3,hb3⟩:∃ x,(m.name.toList == [114,101,115,101,114,118,101,100])=x:=⟨_,rfl⟩
   obtain ⟨f5,hf5⟩:∃ x,fieldsB M n m=x:=⟨_,rfl⟩
   have C1:=Lib.hid fun wx=>RName_any m.name hin.s wx
   have C2:=Lib.hid fun wx=>RScalar_any m.name wx
   have C3:=Lib.hid fun wx (hx:Below w.heap.size w wx)=>RPlace_any (some ⟨b,off,none⟩) n c M m.name wx (H.out.below hx)
   have C5:=Lib.hid fun wx (hx:Below w.heap.size w wx) (hy:Below wr.heap.size wr wx)=>RFields_any (some ⟨b,off,none⟩) n c M m wx (H.out.below hx) (HIN.out.below hy)
   rw [hx1] at C1
   rw [hx2] at C2
   rw [hz3] at C3
   rw [hf5] at C5
   unfold PM.agg at C5
   have hhd:headBad M n k m=(!x1 || (x2 || (b1 || (b2 || b3) || (!decide (z3=(k:Int)) || (decide (50 < m.nF) || (decide (100 < m.nN) || decide (100 < m.nS))))))):=by
    unfold headBad keptB
    rw [hx1,hx2,hz3,hb1,hb2,hb3]
   obtain ⟨A,hA⟩:∃ A,headBad M n k m=A:=⟨_,rfl⟩
   rw [hA] at hhd
   have HA1:=Lib.hid hhd
   have HMB:=Lib.hid (show msgBad M n k=(A || (anyN (fun j=>numBad (m.N j)) m.nN || (anyN (fun j => !named (m.S j)) m.nS || !f5))) by unfold msgBad;rw [hmk,hA,hf5])
   have hsz:=hin.s
   have hq:=hin
   have l1:=hin.n.l
   have l2:=hin.n.lc
   have l3:=hin.t.l
   have l4:=hin.t.lc
   have l5:=hin.f.l
   have l6:=hin.f.lc
   simp only [maxLen] at l2 l4 l6
   obtain ⟨_,_,_,_⟩:=hm.all
   have i1:(k:Int) < (n:Int):=by omega
   have i2:(0:Int)≤(k:Int):=by omega
   have i5:(k:Int).toNat=k:=rfl
   clear hm hin hx1 hx2 hz3 hf5 hA hhd hmk hsz hq
   go_upto_region 7 with fail
   have M1:=Lib.hid (mbx_new wr m 55)
   have hW1:Below w.heap.size w (wr.alloc (.cells #[.string m.name,.slice m.aF m.nF m.cF,.slice m.aN m.nN m.cN,.slice m.aS m.nS m.cS] 55)):=below_alloc hW _
   have hV1:Below wr.heap.size wr (wr.alloc (.cells #[.string m.name,.slice m.aF m.nF m.cF,.slice m.aN m.nN m.cN,.slice m.aS m.nS m.cS] 55)):=below_alloc (Below.refl _ _) _
   generalize wr.alloc (.cells #[.string m.name,.slice m.aF m.nF m.cF,.slice m.aN m.nN m.cN,.slice m.aS m.nS m.cS] 55)=w1 at *
   obtain ⟨B1,hB1⟩:∃ B,B=wr.heap.size:=⟨_,rfl⟩
   rw [← hB1] at M1 ⊢
   clear hB1
   obtain ⟨_,_,_,_⟩:=M1.out.all
   go_cut [74] (fun s wx=>s=.bool A∧Below w1.heap.size w1 wx)
   case first=>
    have hA2:=HA1.out
    have hq0:=Below.refl w1.heap.size w1
    cases x1 with
    | true=>
     cases x2 with
     | true=>
      exact z10zk1
     | false=>
      cases b1 with
      | true=>
       exact z10zk1
      | false=>
       cases b2 with
       | true=>
        exact z10zk1
       | false=>
        cases b3 with
        | true=>
         exact z10zk1
        | false=>
         by_cases cp:z3=(k:Int)
         ·skip
          by_cases c1:50 < m.nF
          ·skip
           exact z10zk1
          ·skip
           by_cases c2:100 < m.nN
           ·skip
            exact z10zk1
           ·skip
            by_cases c3:100 < m.nS
            ·skip
             exact z10zk1
            ·skip
             have e:A=false:=by rw [hA2];simp [*]
             clear hA2
             subst e
             (try have cp1:(z3 == (k:Int))=true:=beq_iff_eq.2 cp)
             (try have cp2:(z3 == (k:Int))=false:=beq_false_of_ne cp)
             (try have d1:(50:Int) < (m.nF:Int):=by omega)
             (try have d2:¬ (50:Int) < (m.nF:Int):=by omega)
             (try have d3:(100:Int) < (m.nN:Int):=by omega)
             (try have d4:¬ (100:Int) < (m.nN:Int):=by omega)
             (try have d5:(100:Int) < (m.nS:Int):=by omega)
             (try have d6:¬ (100:Int) < (m.nS:Int):=by omega)
             (try subst cp)
             repeat any_goals (first|(go_at_call 23;with_reducible refine (C1.out _).mono ?_;rintro e w3 ⟨rfl,rfl⟩)|(go_at_call 27;with_reducible refine (C2.out _).mono ?_;rintro e w4 ⟨rfl,hb4⟩;have Mq:=Lib.hid (M1.out.below hb4);obtain ⟨_,_,_,_⟩:=Mq.out.all;have Xq:=Lib.hid (below_trans hW1 hb4))|(go_at_call 28;with_reducible refine (C3.out _ Xq.out).mono ?_;rintro e w5 ⟨rfl,rfl⟩)|go_skip|go_guarded|go_step|go_upon|(dsimp only []))
             go_meet
             case rel=>exact ⟨rfl,by (first|exact hb4|exact hq0)⟩
         ·skip
          exact z10zk1
    | false=>
     exact z10zk1
   case rest=>
    obtain ⟨rfl,hq⟩:=hcut
    obtain ⟨w2,rfl⟩:∃ w2,w2=wc:=⟨_,rfl⟩
    have M2:=Lib.hid (M1.out.below hq)
    have hW2:=below_trans hW1 hq
    have hV2:=below_trans hV1 hq
    have IN2:=Lib.hid (HIN.out.below hV2)
    obtain ⟨_,_,_,_⟩:=M2.out.all
    cases A with
    | true=>
     repeat any_goals (first|go_skip|go_guarded|go_step|go_upon|(simp only [];done))
     exact bodyPost_ret (v:=.int .i64 7) z0y rfl ⟨by rw [check_bad (by rw [HMB.out];rfl) hkn],hW2⟩
    | false=>
     repeat any_goals (first|go_skip|go_guarded|go_step|go_upon|(simp only [];done))
     go_loopw [5] (fun i wq=>∃ j:Nat,j≤m.nN∧i=.int .i64 j∧anyN (fun j=>numBad (m.N j)) j=false∧w2=wq) (fun i _=>m.nN - (intOf i).toNat)
     case atStart=>exact ⟨0,Nat.zero_le _,rfl,rfl,rfl⟩
     case round=>
      obtain ⟨j,hj,rfl,hA3,rfl⟩:=hrel
      have H3:=Lib.hid hA3
      clear hA3
      by_cases hjn:j < m.nN
      ·obtain ⟨b',off',e1,-,hc,hlo,hhi⟩:=n_lit IN2.out.n hjn (Below.refl _ _)
       have j1:(j:Int) < (m.nN:Int):=by omega
       have j2:(0:Int)≤(j:Int):=by omega
       have j3:(j:Int).toNat=j:=rfl
       obtain ⟨v,hv⟩:∃ v,m.N j=v:=⟨_,rfl⟩
       rw [hv] at hc
       have HV:=Lib.hid hv
       clear hv hlo hhi
       by_cases c1:v < 1
       ·have hb:numBad (m.N j)=true:=by rw [HV.out];unfold numBad;rw [decide_eq_true c1];rfl
        exact z10zk2
       ·by_cases c2:536870911 < v
        ·have hb:numBad (m.N j)=true:=by rw [HV.out];unfold numBad;rw [decide_eq_true c2,Bool.or_true]
         exact z10zk2
        ·have hb:numBad (m.N j)=false:=by rw [HV.out];unfold numBad;rw [decide_eq_false c1,decide_eq_false c2];rfl
         repeat any_goals (first|go_skip|go_guarded|go_step|go_upon|(simp only [];done))
         go_roundw
         case rel=>exact ⟨j+1,by omega,rfl,by show (anyN _ j || numBad (m.N j))=false;rw [H3.out,hb];rfl,by trivial⟩
         case measure=>simp [intOf];omega
      ·have hj':j=m.nN:=by omega
       have j1:¬ (j:Int) < (m.nN:Int):=by omega
       have HN:=Lib.hid (show anyN (fun j=>numBad (m.N j)) m.nN=false by rw [← hj'];exact H3.out)
       clear hj'
       repeat any_goals (first|go_skip|go_guarded|go_step|go_upon|(simp only [];done))
       go_loopw [6] (fun i wq=>∃ j:Nat,j≤m.nS∧i=.int .i64 j∧anyN (fun j => !named (m.S j)) j=false∧w2=wq) (fun i _=>m.nS - (intOf i).toNat)
       case atStart=>exact ⟨0,Nat.zero_le _,rfl,rfl,rfl⟩
       case round=>
        obtain ⟨q,hq3,rfl,hA4,rfl⟩:=hrel
        have H4:=Lib.hid hA4
        clear hA4
        by_cases hqn:q < m.nS
        ·obtain ⟨b',off',e1,-,hc,hsz⟩:=s_lit IN2.out.t hqn (Below.refl _ _)
         have k1:(q:Int) < (m.nS:Int):=by omega
         have k2:(0:Int)≤(q:Int):=by omega
         have k3:(q:Int).toNat=q:=rfl
         obtain ⟨x,hx⟩:∃ x,named (m.S q)=x:=⟨_,rfl⟩
         have C6:=Lib.hid fun wx=>RName_any (m.S q) hsz wx
         rw [hx] at C6
         have HX:=Lib.hid hx
         clear hx hsz
         cases x with
         | false=>
          repeat any_goals (first|(go_at_call 23;with_reducible refine (C6.out _).mono ?_;rintro e w3 ⟨rfl,rfl⟩)|go_skip|go_guarded|go_step|go_upon|(dsimp only []))
          exact bodyPost_ret (v:=.int .i64 7) z0y rfl ⟨by rw [check_bad (by rw [HMB.out,anyN_of (p:=fun j => !named (m.S j)) (show (!named (m.S q))=true by rw [HX.out];rfl) hqn,Bool.true_or,Bool.or_true,Bool.or_true]) hkn],hW2⟩
         | true=>
          repeat any_goals (first|(go_at_call 23;with_reducible refine (C6.out _).mono ?_;rintro e w3 ⟨rfl,rfl⟩)|go_skip|go_guarded|go_step|go_upon|(dsimp only []))
          go_roundw
          case rel=>exact ⟨q+1,by omega,rfl,by show (anyN _ q || !named (m.S q))=false;rw [H4.out,HX.out];rfl,by trivial⟩
          case measure=>simp [intOf];omega
        ·have hq':q=m.nS:=by omega
         have k1:¬ (q:Int) < (m.nS:Int):=by omega
         have HS:=Lib.hid (show anyN (fun j => !named (m.S j)) m.nS=false by rw [← hq'];exact H4.out)
         clear hq'
         cases f5 with
         | false=>
          repeat any_goals (first|(go_at_call 29;with_reducible refine (C5.out _ hW2 hV2).mono ?_;rintro e w4 ⟨rfl,hb4⟩)|go_skip|go_guarded|go_step|go_upon|(dsimp only []))
          exact bodyPost_ret (v:=.int .i64 7) z0y rfl ⟨by rw [check_bad (by rw [HMB.out];simp) hkn],below_trans hW2 hb4⟩
         | true=>
          repeat any_goals (first|(go_at_call 29;with_reducible refine (C5.out _ hW2 hV2).mono ?_;rintro e w4 ⟨rfl,hb4⟩)|go_skip|go_guarded|go_step|go_upon|(dsimp only []))
          go_roundw
          case rel=>exact ⟨k+1,by omega,rfl,by show (anyN (msgBad M n) k || msgBad M n k)=false;rw [HA.out,HMB.out,HN.out,HS.out];rfl,below_trans hW2 hb4⟩
          case measure=>simp [intOf];omega
  ·obtain rfl:k=n:=by omega
   have i1:¬ (k:Int) < (k:Int):=by omega
   repeat any_goals (first|go_skip|go_guarded|go_step|go_upon|(simp only [];done))
   exact bodyPost_ret (v:=.int .i64 0) z0y rfl ⟨by rw [check_good z0b z0b HA.out],hW⟩
end Go.Proofs.YtfondldmmcmloaaDoor
