/- PF, Utf. -/
import Derived.Test.YtfondldmmcmloaaGreatDoorPb15
set_option maxRecDepth 1000000
set_option maxHeartbeats 8000000
namespace Go.Proofs.YtfondldmmcmloaaGreatDoor
open Go Go.RowKit
theorem z16zk1 {p:Prop} (h:p:=by
 (try have cp1:(z3 == (k:Int))=true:=beq_iff_eq.2 cp)
 (try have cp2:(z3 == (k:Int))=false:=beq_false_of_ne cp)
 have hb:msgBad M n k=true:=by rw [HMB.out];simp [*]
 (try subst cp)
 repeat any_goals (first|(go_at_call 42;with_reducible refine (C1.out _).mono ?_;rintro e w3 ⟨rfl,rfl⟩)|(go_at_call 43;with_reducible refine (C2.out _).mono ?_;rintro e w3 ⟨rfl,rfl⟩)|(go_at_call 44;refine (C4.out _ _ L4.out).mono ?_;rintro e w4 ⟨rfl,rfl⟩)|(go_at_call 36;refine (C3.out _ hW2).mono ?_;rintro e w5 ⟨rfl,hb5⟩;have M5:=Lib.hid (M2.out.below hb5);obtain ⟨_,_,_,_⟩:=M5.out.all;have hW5:=below_trans hW2 hb5;have hV5:=below_trans hV2 hb5)|(go_at_call 45;with_reducible refine (C5.out _ hW5 hV5).mono ?_;rintro e w6 ⟨rfl,hb6⟩;have hW6:=below_trans hW5 hb6)|go_skip|go_guarded|go_step|go_upon|(dsimp only []))
 exact bodyPost_ret (v:=.int .i64 7) z0i1 rfl ⟨by rw [check_bad hb hkn],by first|exact hW6|exact hW5|exact hW2|exact hW1⟩):p:=h
theorem z16zk2 {p:Prop} (h:p:=by
 repeat any_goals (first|go_skip|go_guarded|go_step|go_upon|(simp only [];done))
 exact bodyPost_ret (v:=.tuple #[.int .i64 (-1),.int .i64 1]) z0m rfl ⟨rfl,rfl⟩):p:=h
theorem z16zk3 {p:Prop} (h:p:=by
 exact bodyPost_ret (v:=.tuple #[.int .i64 (-1),.int .i64 1]) z0m rfl ⟨rfl,rfl⟩):p:=h
theorem z16zk4 {p:Prop} (h:p:=by
 have hqf:=hqq1.out
 repeat any_goals (first|go_skip|go_guarded|go_step|go_upon|(simp only [];done))
 go_round
 case rel=>exact .inr (.inl ⟨rfl,by simp,by simp⟩)
 case measure=>simp [intOf]):p:=h
theorem z16zk5 {p:Prop} (h:p:=by
 rw [show pointB c=false from decide_eq_false z0c]
 go_enter Tryz.func115,Tryz.ntmps115
 repeat any_goals (first|go_skip|go_guarded|go_step|go_upon|(simp only [];done))
 exact bodyPost_ret (v:=.bool false) (by simp [results,Tryz.results115,go_sem]) rfl ⟨rfl,rfl⟩):p:=h
theorem z16zk6 {p:Prop} (h:p:=by
 go_enter Tryz.func115,Tryz.ntmps115
 repeat any_goals (first|go_skip|go_guarded|go_step|go_upon|(simp only [];done))
 exact bodyPost_ret (v:=.bool true) (by simp [results,Tryz.results115,go_sem]) rfl ⟨rfl,rfl⟩):p:=h
end Go.Proofs.YtfondldmmcmloaaGreatDoor
namespace Go.Proofs.YtfondldmmcmloaaGreatDoor
open Go.RowKit
def keptA:List ByteArray:=[⟨#[111,112,116,105,111,110,97,108]⟩,⟨#[114,101,112,101,97,116,101,100]⟩,⟨#[114,101,115,101,114,118,101,100]⟩]
theorem kept_any (s:ByteArray):anyN (fun j=>eqS (keptA.getD j ⟨#[]⟩) s) 3=keptB s:=by
 have hc:∀ a b:List UInt8,(a == b)=(b == a):=fun a b=>by rw [Bool.eq_iff_iff,beq_iff_eq,beq_iff_eq];exact ⟨fun h=>h.symm,fun h=>h.symm⟩
 have he:∀ l:Array UInt8,(ByteArray.mk l).toList=l.toList:=fun l=>by rw [ByteArray.toList_eq]
 simp only [anyN,eqS,keptA,keptB,List.getD_cons_zero,List.getD_cons_succ,Bool.false_or,he,Bool.or_assoc]
 generalize s.1.toList=x
 simp only [hc _ x]
theorem msg_all {M:Nat→PM} {n k:Nat} {m:PM} (h:M k=m) :
  msgBad M n k=(!named m.name || (scalarB m.name || (keptB m.name || (!decide (placeM M n m.name=(k:Int)) || !rightB M n m)))):=by
 unfold msgBad headBad rightB
 rw [h]
 generalize named m.name=a1
 generalize scalarB m.name=a2
 generalize keptB m.name=a3
 generalize decide (placeM M n m.name=(k:Int))=a4
 generalize decide (50 < m.nF)=a5
 generalize decide (100 < m.nN)=a6
 generalize decide (100 < m.nS)=a7
 generalize anyN (fun j=>numBad (m.N j)) m.nN=a8
 generalize anyN (fun j => !named (m.S j)) m.nS=a9
 generalize fieldsB M n m=b1
 cases a1 <;> cases a2 <;> cases a3 <;> cases a4 <;> cases a5 <;> cases a6 <;> cases a7 <;> cases a8 <;> cases a9 <;> cases b1 <;> rfl
/-- **Check** of the program -/
theorem PCheck_any (a:Option Addr) (n c:Nat) (M:Nat→PM) (w:World) (h:PL w a n c M) :
  Calls Tryz.prog 20 #[.slice a n c] w fun e w'=>e=.returned (.int .i64 (checkI M n))∧Below w.heap.size w w':=by
 have H:=Lib.hid h
 have q1:=h.l
 have q2:=h.lc
 simp only [maxLen] at q2
 clear h
 go_enter Tryz.func20,Tryz.ntmps20
 by_cases h1:(n:Int) < 1
 ·repeat any_goals (first|go_skip|go_guarded|go_step|go_upon|(simp only [];done))
  exact bodyPost_ret (v:=.int .i64 7) z0i1 rfl ⟨by rw [check_few (.inl z0c)],zb2⟩
 by_cases h2:(50:Int) < (n:Int)
 ·repeat any_goals (first|go_skip|go_guarded|go_step|go_upon|(simp only [];done))
  exact bodyPost_ret (v:=.int .i64 7) z0i1 rfl ⟨by rw [check_few (.inr z0c)],zb2⟩
 repeat any_goals (first|go_skip|go_guarded|go_step|go_upon|(simp only [];done))
 go_loopw [15] (fun i wr=>∃ k:Nat,k≤n∧i=.int .i64 k∧anyN (msgBad M n) k=false∧Below w.heap.size w wr) (fun i _=>n - (intOf i).toNat)
 case atStart=>exact ⟨0,Nat.zero_le _,rfl,rfl,Below.refl _ _⟩
 case round=>
  obtain ⟨k,hk,rfl,hA,hW⟩:=hrel
  have HA:=Lib.hid hA
  clear hA
  by_cases hkn:k < n
  ·obtain ⟨b,off,rfl,hbl,hm,hin⟩:=m_lit H.out hkn hW
   obtain ⟨m,hmk⟩:∃ m,M k=m:=⟨_,rfl⟩
   have HMA:=Lib.hid (msg_all (M:=M) (n:=n) hmk)
   rw [hmk] at hm hin
   have HIN:=Lib.hid hin
   obtain ⟨x1,hx1⟩:∃ x,named m.name=x:=⟨_,rfl⟩
   obtain ⟨x2,hx2⟩:∃ x,scalarB m.name=x:=⟨_,rfl⟩
   obtain ⟨z3,hz3⟩:∃ z,placeM M n m.name=z:=⟨_,rfl⟩
   obtain ⟨x4,hx4⟩:∃ x,keptB m.name=x:=⟨_,rfl⟩
   obtain ⟨f5,hf5⟩:∃ x,rightB M n m=x:=⟨_,rfl⟩
   have hma:=HMA.out
   rw [hx1,hx2,hz3,hx4,hf5] at hma
   have HMB:=Lib.hid hma
   have C1:=Lib.hid fun wx=>Named_any m.name hin.s wx
   have C2:=Lib.hid fun wx=>PScalar_any m.name wx
   have C3:=Lib.hid fun wx (hx:Below w.heap.size w wx)=>PPlace_any (some ⟨b,off,none⟩) n c M m.name wx (H.out.below hx)
   have C4:=Lib.hid fun (B:Nat) wx (hx:SIn wx (some ⟨B,0,none⟩) 3 3 (fun j=>keptA.getD j ⟨#[]⟩))=>(by
    have h:=PContS_any (some ⟨B,0,none⟩) 3 3 _ m.name wx hx
    rwa [kept_any,hx4] at h:Calls Tryz.prog 44 #[.slice (some ⟨B,0,none⟩) 3 3,.string m.name] wx fun e w'=>e=.returned (.bool x4)∧w'=wx)
   have C5:=Lib.hid fun wx (hx:Below w.heap.size w wx) (hy:Below wr.heap.size wr wx)=>right_any (some ⟨b,off,none⟩) n c M m wx (H.out.below hx) (HIN.out.below hy)
   rw [hx1] at C1
   rw [hx2] at C2
   rw [hz3] at C3
   rw [hf5] at C5
   unfold PM.agg at C5
   obtain ⟨_,_,_,_⟩:=hm.all
   have i1:(k:Int) < (n:Int):=by omega
   have i2:(0:Int)≤(k:Int):=by omega
   have i5:(k:Int).toNat=k:=rfl
   clear hm hin hx1 hx2 hz3 hf5 hx4 hmk hma
   go_upto_region 6 with fail
   have M1:=Lib.hid (mbx_new wr m 45)
   have hW1:Below w.heap.size w (wr.alloc (.cells #[.string m.name,.slice m.aF m.nF m.cF,.slice m.aN m.nN m.cN,.slice m.aS m.nS m.cS] 45)):=below_alloc hW _
   have hV1:Below wr.heap.size wr (wr.alloc (.cells #[.string m.name,.slice m.aF m.nF m.cF,.slice m.aN m.nN m.cN,.slice m.aS m.nS m.cS] 45)):=below_alloc (Below.refl _ _) _
   generalize wr.alloc (.cells #[.string m.name,.slice m.aF m.nF m.cF,.slice m.aN m.nN m.cN,.slice m.aS m.nS m.cS] 45)=w1 at *
   obtain ⟨B1,hB1⟩:∃ B,B=wr.heap.size:=⟨_,rfl⟩
   rw [← hB1] at M1 ⊢
   clear hB1
   obtain ⟨_,_,_,_⟩:=M1.out.all
   have L4:=Lib.hid (show SIn (w1.alloc (.cells #[.string { data:=#[111,112,116,105,111,110,97,108] },.string { data:=#[114,101,112,101,97,116,101,100] },.string { data:=#[114,101,115,101,114,118,101,100] }] 9)) (some ⟨w1.heap.size,0,none⟩) 3 3 (fun j=>keptA.getD j ⟨#[]⟩) from sin_lit w1 keptA 9 z0e z0e)
   have M2:=Lib.hid (M1.out.below (below_alloc (Below.refl w1.heap.size w1) (.cells #[.string { data:=#[111,112,116,105,111,110,97,108] },.string { data:=#[114,101,112,101,97,116,101,100] },.string { data:=#[114,101,115,101,114,118,101,100] }] 9)))
   have hW2:=below_alloc hW1 (.cells #[.string { data:=#[111,112,116,105,111,110,97,108] },.string { data:=#[114,101,112,101,97,116,101,100] },.string { data:=#[114,101,115,101,114,118,101,100] }] 9)
   have hV2:=below_alloc hV1 (.cells #[.string { data:=#[111,112,116,105,111,110,97,108] },.string { data:=#[114,101,112,101,97,116,101,100] },.string { data:=#[114,101,115,101,114,118,101,100] }] 9)
   obtain ⟨_,_,_,_⟩:=M2.out.all
   cases x1 with
   | true=>
    cases x2 with
    | true=>
     exact z16zk1
    | false=>
     cases x4 with
     | true=>
      exact z16zk1
     | false=>
      by_cases cp:z3=(k:Int)
      ·skip
       cases f5 with
       | true=>
        (try have cp1:(z3 == (k:Int))=true:=beq_iff_eq.2 cp)
        (try have cp2:(z3 == (k:Int))=false:=beq_false_of_ne cp)
        have hb:msgBad M n k=false:=by rw [HMB.out];simp [*]
        (try subst cp)
        repeat any_goals (first|(go_at_call 42;with_reducible refine (C1.out _).mono ?_;rintro e w3 ⟨rfl,rfl⟩)|(go_at_call 43;with_reducible refine (C2.out _).mono ?_;rintro e w3 ⟨rfl,rfl⟩)|(go_at_call 44;refine (C4.out _ _ L4.out).mono ?_;rintro e w4 ⟨rfl,rfl⟩)|(go_at_call 36;refine (C3.out _ hW2).mono ?_;rintro e w5 ⟨rfl,hb5⟩;have M5:=Lib.hid (M2.out.below hb5);obtain ⟨_,_,_,_⟩:=M5.out.all;have hW5:=below_trans hW2 hb5;have hV5:=below_trans hV2 hb5)|(go_at_call 45;with_reducible refine (C5.out _ hW5 hV5).mono ?_;rintro e w6 ⟨rfl,hb6⟩;have hW6:=below_trans hW5 hb6)|go_skip|go_guarded|go_step|go_upon|(dsimp only []))
        go_roundw
        case rel=>exact ⟨k+1,by omega,rfl,by show (anyN (msgBad M n) k || msgBad M n k)=false;rw [HA.out,hb];rfl,hW6⟩
        case measure=>simp [intOf];omega
       | false=>
        exact z16zk1
      ·skip
       exact z16zk1
   | false=>
    exact z16zk1
  ·obtain rfl:k=n:=by omega
   have i1:¬ (k:Int) < (k:Int):=by omega
   repeat any_goals (first|go_skip|go_guarded|go_step|go_upon|(simp only [];done))
   exact bodyPost_ret (v:=.int .i64 0) z0i1 rfl ⟨by rw [check_good z0c z0c HA.out],hW⟩
theorem idx_at {s:ByteArray} {m:Nat} (hm:m < s.size) (W:World):(Instr.index 9 (.string s) (.int .i64 (m:Int))).run Tryz.prog W=.ok (.int .u8 (((s.get! m).toNat:Nat):Int)) W:=by
 rw [run_index_string W 9 s .i64 m Tryz.underlying9,dif_pos ⟨by omega,by omega⟩]
 have e:(s.get! m)=s[m]'hm:=by
  cases s with
  | mk d=>exact getElem!_pos d m hm
 rw [e]
 rfl
theorem andF:∀ X:Fin 256,bits .and .u8 ((X.val:Nat):Int) 63=((X.val % 64:Nat):Int):=by decide
theorem andC:∀ X:Fin 256,(bits .and .u8 ((X.val:Nat):Int) 192 == 128)=decide (X.val / 64=2):=by decide
theorem and31:∀ X:Fin 256,bits .and .i64 ((X.val:Nat):Int) 31=((X.val % 32:Nat):Int):=by decide
theorem and15:∀ X:Fin 256,bits .and .i64 ((X.val:Nat):Int) 15=((X.val % 16:Nat):Int):=by decide
theorem and07:∀ X:Fin 256,bits .and .i64 ((X.val:Nat):Int) 7=((X.val % 8:Nat):Int):=by decide
theorem Point_any (c:Int) (w:World) (h0:0≤c) (h1:c < 100000000):Calls Tryz.prog 115 #[.int .i64 c] w fun e w'=>e=.returned (.bool (pointB c))∧w'=w:=by
 by_cases c1:c≤1114111
 ·by_cases c2:c < 55296
  ·rw [show pointB c=true from decide_eq_true ⟨h0,c1,.inl c2⟩]
   exact z16zk6
  ·by_cases c3:57343 < c
   ·rw [show pointB c=true from decide_eq_true ⟨h0,c1,.inr c3⟩]
    exact z16zk6
   ·exact z16zk5
 ·exact z16zk5
abbrev IXF (s:ByteArray) (i b:Int):Prop:=∀ W:World,(Instr.index 9 (.string s) (.int .i64 i)).run Tryz.prog W=.ok (.int .u8 b) W
theorem Next_one (s:ByteArray) (n a b0:Nat) (w:World) (hn:(s.size:Int)=n) (_hb:n < 9223372036854775000) (ha:a < n) (hx0:IXF s a b0) (h:b0 < 128) :
  Calls Tryz.prog 98 #[.string s,.int .i64 (a:Nat)] w fun e w'=>e=.returned (.tuple #[.int .i64 (b0:Nat),.int .i64 1])∧w'=w:=by
 have i1:¬ (n:Int)≤(a:Int):=by omega
 have i2:¬ (a:Int) < 0:=by omega
 have i3:(b0:Int) < 128:=by omega
 go_enter Tryz.func98,Tryz.ntmps98
 repeat any_goals (first|go_skip|go_guarded|go_step|go_upon|(simp only [];done))
 exact bodyPost_ret (v:=.tuple #[.int .i64 (b0:Nat),.int .i64 1]) z0m rfl ⟨rfl,rfl⟩
theorem Next_bad (s:ByteArray) (n a b0:Nat) (w:World) (hn:(s.size:Int)=n) (_hb:n < 9223372036854775000) (ha:a < n) (hx0:IXF s a b0) (h:128≤b0) (h2:b0 < 192∨248≤b0) (h3:b0 < 256) :
  Calls Tryz.prog 98 #[.string s,.int .i64 (a:Nat)] w fun e w'=>e=.returned (.tuple #[.int .i64 (-1),.int .i64 1])∧w'=w:=by
 have i1:¬ (n:Int)≤(a:Int):=by omega
 have i2:¬ (a:Int) < 0:=by omega
 have i3:¬ (b0:Int) < 128:=by omega
 rcases h2 with h2|h2
 ·have i4:¬ (192:Int)≤(b0:Int):=by omega
  have i5:¬ (224:Int)≤(b0:Int):=by omega
  have i6:¬ (240:Int)≤(b0:Int):=by omega
  go_enter Tryz.func98,Tryz.ntmps98
  exact z16zk2
 ·have i4:(192:Int)≤(b0:Int):=by omega
  have i5:¬ (b0:Int) < 224:=by omega
  have i6:(224:Int)≤(b0:Int):=by omega
  have i7:¬ (b0:Int) < 240:=by omega
  have i8:(240:Int)≤(b0:Int):=by omega
  have i9:¬ (b0:Int) < 248:=by omega
  go_enter Tryz.func98,Tryz.ntmps98
  exact z16zk2
theorem Next_two (s:ByteArray) (n a b0 c0 b1 m1:Nat) (w:World) (hn:(s.size:Int)=n) (hb:n < 9223372036854775000) (ha:a < n) (hx0:IXF s a b0) (h:192≤b0) (h2:b0 < 224) (hc0:bits .and .i64 (b0:Int) 31=(c0:Nat)) (hc:c0 < 32)
  (hx1:a+1 < n→IXF s ((a:Int)+1) b1) (hf1:bits .and .u8 (b1:Int) 63=(m1:Nat)) (q1:Bool) (hq1:(bits .and .u8 (b1:Int) 192 == 128)=q1) (hm1:m1 < 64) :
  Calls Tryz.prog 98 #[.string s,.int .i64 (a:Nat)] w fun e w'=>e=.returned (if 1 < n - a∧q1=true∧128≤c0 * 64+m1∧pointB (c0 * 64+m1:Nat)=true then .tuple #[.int .i64 (c0 * 64+m1:Nat),.int .i64 2] else .tuple #[.int .i64 (-1),.int .i64 1])∧w'=w:=by
 have i1:¬ (n:Int)≤(a:Int):=by omega
 have i2:¬ (a:Int) < 0:=by omega
 have i3:¬ (b0:Int) < 128:=by omega
 have i4:(192:Int)≤(b0:Int):=by omega
 have i5:(b0:Int) < 224:=by omega
 obtain ⟨R,hR⟩:∃ R:Value,R=if 1 < n - a∧q1=true∧128≤c0 * 64+m1∧pointB (c0 * 64+m1:Nat)=true then .tuple #[.int .i64 (c0 * 64+m1:Nat),.int .i64 2] else .tuple #[.int .i64 (-1),.int .i64 1]:=⟨_,rfl⟩
 rw [← hR]
 by_cases d:a+1 < n
 ·obtain ⟨C,hC⟩:∃ C:Nat,C=c0 * 64+m1:=⟨_,rfl⟩
  obtain ⟨p,hp⟩:∃ p,p=pointB (C:Nat):=⟨_,rfl⟩
  rw [← hC,← hp] at hR
  have HP:Hid (Calls Tryz.prog 115 #[.int .i64 (C:Nat)] w fun e w'=>e=.returned (.bool p)∧w'=w):=Lib.hid (by rw [hp];exact Point_any _ _ z0c z0c)
  have HD:Hid (1 < n - a):=Lib.hid z0c
  have HR:=Lib.hid hR
  have HC:=Lib.hid hC
  clear hR hC hp
  have hx1:=hx1 z0c
  have j1:¬ (n:Int) < (a:Int)+2:=by omega
  have hqq1:=Lib.hid hq1
  clear hq1
  go_enter Tryz.func98,Tryz.ntmps98
  repeat any_goals (first|go_skip|go_guarded|go_step|go_upon|(simp only [];done))
  go_loop [6,9] (fun c i=>(i=.int .i64 1∧c=.int .i64 (c0:Nat))∨(i=.int .i64 2∧c=.int .i64 (c0 * 64+m1:Nat)∧q1=true)) (fun _ i=>3 - (intOf i).toNat)
  case atStart=>exact .inl ⟨rfl,rfl⟩
  case round=>
   rcases hrel with ⟨rfl,hcc⟩|⟨rfl,hcc,r1⟩
   ·subst hcc
    cases q1 with
    | false=>
     have hqf:=hqq1.out
     have e:=HR.out
     rw [if_neg z0f] at e
     subst e
     exact z16zk2
    | true=>
     have hqf:=hqq1.out
     repeat any_goals (first|go_skip|go_guarded|go_step|go_upon|(simp only [];done))
     go_round
     case rel=>exact .inr (⟨rfl,by simp,by simp⟩)
     case measure=>simp [intOf]
   ·rw [← HC.out] at hcc
    subst hcc
    by_cases l:128≤C
    ·have l1:¬ (C:Int) < 128:=by omega
     cases p with
     | false=>
      have e:=HR.out
      rw [if_neg z0f] at e
      subst e
      repeat any_goals (first|(go_at_call 115;refine (HP.out).mono ?_;rintro e w' ⟨rfl,rfl⟩)|go_skip|go_guarded|go_step|go_upon|(dsimp only []))
      exact z16zk3
     | true=>
      have e:=HR.out
      rw [if_pos ⟨HD.out,r1,l,rfl⟩] at e
      subst e
      repeat any_goals (first|(go_at_call 115;refine (HP.out).mono ?_;rintro e w' ⟨rfl,rfl⟩)|go_skip|go_guarded|go_step|go_upon|(dsimp only []))
      exact bodyPost_ret (v:=.tuple #[.int .i64 (C:Nat),.int .i64 2]) z0m rfl ⟨rfl,rfl⟩
    ·have l1:(C:Int) < 128:=by omega
     have e:=HR.out
     rw [if_neg (fun h=>l h.2.2.1)] at e
     subst e
     exact z16zk2
 ·rw [if_neg (fun h=>d z0c)] at hR
  subst hR
  have j1:(n:Int) < (a:Int)+2:=by omega
  go_enter Tryz.func98,Tryz.ntmps98
  exact z16zk2
theorem Next_three (s:ByteArray) (n a b0 c0 b1 m1 b2 m2:Nat) (w:World) (hn:(s.size:Int)=n) (hb:n < 9223372036854775000) (ha:a < n) (hx0:IXF s a b0) (h:224≤b0) (h2:b0 < 240) (hc0:bits .and .i64 (b0:Int) 15=(c0:Nat)) (hc:c0 < 16)
  (hx1:a+1 < n→IXF s ((a:Int)+1) b1) (hf1:bits .and .u8 (b1:Int) 63=(m1:Nat)) (q1:Bool) (hq1:(bits .and .u8 (b1:Int) 192 == 128)=q1) (hm1:m1 < 64) (hx2:a+2 < n→IXF s ((a:Int)+2) b2) (hf2:bits .and .u8 (b2:Int) 63=(m2:Nat)) (q2:Bool) (hq2:(bits .and .u8 (b2:Int) 192 == 128)=q2) (hm2:m2 < 64) :
  Calls Tryz.prog 98 #[.string s,.int .i64 (a:Nat)] w fun e w'=>e=.returned (if 2 < n - a∧q1=true∧q2=true∧2048≤(c0 * 64+m1) * 64+m2∧pointB ((c0 * 64+m1) * 64+m2:Nat)=true then .tuple #[.int .i64 ((c0 * 64+m1) * 64+m2:Nat),.int .i64 3] else .tuple #[.int .i64 (-1),.int .i64 1])∧w'=w:=by
 have i1:¬ (n:Int)≤(a:Int):=by omega
 have i2:¬ (a:Int) < 0:=by omega
 have i3:¬ (b0:Int) < 128:=by omega
 have i4:(192:Int)≤(b0:Int):=by omega
 have i5:¬ (b0:Int) < 224:=by omega
 have i6:(224:Int)≤(b0:Int):=by omega
 have i7:(b0:Int) < 240:=by omega
 obtain ⟨R,hR⟩:∃ R:Value,R=if 2 < n - a∧q1=true∧q2=true∧2048≤(c0 * 64+m1) * 64+m2∧pointB ((c0 * 64+m1) * 64+m2:Nat)=true then .tuple #[.int .i64 ((c0 * 64+m1) * 64+m2:Nat),.int .i64 3] else .tuple #[.int .i64 (-1),.int .i64 1]:=⟨_,rfl⟩
 rw [← hR]
 by_cases d:a+2 < n
 ·obtain ⟨C,hC⟩:∃ C:Nat,C=(c0 * 64+m1) * 64+m2:=⟨_,rfl⟩
  obtain ⟨p,hp⟩:∃ p,p=pointB (C:Nat):=⟨_,rfl⟩
  rw [← hC,← hp] at hR
  have HP:Hid (Calls Tryz.prog 115 #[.int .i64 (C:Nat)] w fun e w'=>e=.returned (.bool p)∧w'=w):=Lib.hid (by rw [hp];exact Point_any _ _ z0c z0c)
  have HD:Hid (2 < n - a):=Lib.hid z0c
  have HR:=Lib.hid hR
  have HC:=Lib.hid hC
  clear hR hC hp
  have hx1:=hx1 z0c
  have hx2:=hx2 z0c
  have j1:¬ (n:Int) < (a:Int)+3:=by omega
  have hqq1:=Lib.hid hq1
  clear hq1
  have hqq2:=Lib.hid hq2
  clear hq2
  go_enter Tryz.func98,Tryz.ntmps98
  repeat any_goals (first|go_skip|go_guarded|go_step|go_upon|(simp only [];done))
  go_loop [6,9] (fun c i=>(i=.int .i64 1∧c=.int .i64 (c0:Nat))∨(i=.int .i64 2∧c=.int .i64 (c0 * 64+m1:Nat)∧q1=true)∨(i=.int .i64 3∧c=.int .i64 ((c0 * 64+m1) * 64+m2:Nat)∧q1=true∧q2=true)) (fun _ i=>4 - (intOf i).toNat)
  case atStart=>exact .inl ⟨rfl,rfl⟩
  case round=>
   rcases hrel with ⟨rfl,hcc⟩|⟨rfl,hcc,r1⟩|⟨rfl,hcc,r1,r2⟩
   ·subst hcc
    cases q1 with
    | false=>
     have hqf:=hqq1.out
     have e:=HR.out
     rw [if_neg z0f] at e
     subst e
     exact z16zk2
    | true=>
     exact z16zk4
   ·subst hcc
    cases q2 with
    | false=>
     have hqf:=hqq2.out
     have e:=HR.out
     rw [if_neg z0f] at e
     subst e
     exact z16zk2
    | true=>
     have hqf:=hqq2.out
     repeat any_goals (first|go_skip|go_guarded|go_step|go_upon|(simp only [];done))
     go_round
     case rel=>exact .inr (.inr (⟨rfl,by simp,r1,by simp⟩))
     case measure=>simp [intOf]
   ·rw [← HC.out] at hcc
    subst hcc
    by_cases l:2048≤C
    ·have l1:¬ (C:Int) < 2048:=by omega
     cases p with
     | false=>
      have e:=HR.out
      rw [if_neg z0f] at e
      subst e
      repeat any_goals (first|(go_at_call 115;refine (HP.out).mono ?_;rintro e w' ⟨rfl,rfl⟩)|go_skip|go_guarded|go_step|go_upon|(dsimp only []))
      exact z16zk3
     | true=>
      have e:=HR.out
      rw [if_pos ⟨HD.out,r1,r2,l,rfl⟩] at e
      subst e
      repeat any_goals (first|(go_at_call 115;refine (HP.out).mono ?_;rintro e w' ⟨rfl,rfl⟩)|go_skip|go_guarded|go_step|go_upon|(dsimp only []))
      exact bodyPost_ret (v:=.tuple #[.int .i64 (C:Nat),.int .i64 3]) z0m rfl ⟨rfl,rfl⟩
    ·have l1:(C:Int) < 2048:=by omega
     have e:=HR.out
     rw [if_neg (fun h=>l h.2.2.2.1)] at e
     subst e
     exact z16zk2
 ·rw [if_neg (fun h=>d z0c)] at hR
  subst hR
  have j1:(n:Int) < (a:Int)+3:=by omega
  go_enter Tryz.func98,Tryz.ntmps98
  exact z16zk2
theorem Next_four (s:ByteArray) (n a b0 c0 b1 m1 b2 m2 b3 m3:Nat) (w:World) (hn:(s.size:Int)=n) (hb:n < 9223372036854775000) (ha:a < n) (hx0:IXF s a b0) (h:240≤b0) (h2:b0 < 248) (hc0:bits .and .i64 (b0:Int) 7=(c0:Nat)) (hc:c0 < 8)
  (hx1:a+1 < n→IXF s ((a:Int)+1) b1) (hf1:bits .and .u8 (b1:Int) 63=(m1:Nat)) (q1:Bool) (hq1:(bits .and .u8 (b1:Int) 192 == 128)=q1) (hm1:m1 < 64) (hx2:a+2 < n→IXF s ((a:Int)+2) b2) (hf2:bits .and .u8 (b2:Int) 63=(m2:Nat)) (q2:Bool) (hq2:(bits .and .u8 (b2:Int) 192 == 128)=q2) (hm2:m2 < 64) (hx3:a+3 < n→IXF s ((a:Int)+3) b3) (hf3:bits .and .u8 (b3:Int) 63=(m3:Nat)) (q3:Bool) (hq3:(bits .and .u8 (b3:Int) 192 == 128)=q3) (hm3:m3 < 64) :
  Calls Tryz.prog 98 #[.string s,.int .i64 (a:Nat)] w fun e w'=>e=.returned (if 3 < n - a∧q1=true∧q2=true∧q3=true∧65536≤((c0 * 64+m1) * 64+m2) * 64+m3∧pointB (((c0 * 64+m1) * 64+m2) * 64+m3:Nat)=true then .tuple #[.int .i64 (((c0 * 64+m1) * 64+m2) * 64+m3:Nat),.int .i64 4] else .tuple #[.int .i64 (-1),.int .i64 1])∧w'=w:=by
 have i1:¬ (n:Int)≤(a:Int):=by omega
 have i2:¬ (a:Int) < 0:=by omega
 have i3:¬ (b0:Int) < 128:=by omega
 have i4:(192:Int)≤(b0:Int):=by omega
 have i5:¬ (b0:Int) < 224:=by omega
 have i6:(224:Int)≤(b0:Int):=by omega
 have i7:¬ (b0:Int) < 240:=by omega
 have i8:(240:Int)≤(b0:Int):=by omega
 have i9:(b0:Int) < 248:=by omega
 obtain ⟨R,hR⟩:∃ R:Value,R=if 3 < n - a∧q1=true∧q2=true∧q3=true∧65536≤((c0 * 64+m1) * 64+m2) * 64+m3∧pointB (((c0 * 64+m1) * 64+m2) * 64+m3:Nat)=true then .tuple #[.int .i64 (((c0 * 64+m1) * 64+m2) * 64+m3:Nat),.int .i64 4] else .tuple #[.int .i64 (-1),.int .i64 1]:=⟨_,rfl⟩
 rw [← hR]
 by_cases d:a+3 < n
 ·obtain ⟨C,hC⟩:∃ C:Nat,C=((c0 * 64+m1) * 64+m2) * 64+m3:=⟨_,rfl⟩
  obtain ⟨p,hp⟩:∃ p,p=pointB (C:Nat):=⟨_,rfl⟩
  rw [← hC,← hp] at hR
  have HP:Hid (Calls Tryz.prog 115 #[.int .i64 (C:Nat)] w fun e w'=>e=.returned (.bool p)∧w'=w):=Lib.hid (by rw [hp];exact Point_any _ _ z0c z0c)
  have HD:Hid (3 < n - a):=Lib.hid z0c
  have HR:=Lib.hid hR
  have HC:=Lib.hid hC
  clear hR hC hp
  have hx1:=hx1 z0c
  have hx2:=hx2 z0c
  have hx3:=hx3 z0c
  have j1:¬ (n:Int) < (a:Int)+4:=by omega
  have hqq1:=Lib.hid hq1
  clear hq1
  have hqq2:=Lib.hid hq2
  clear hq2
  have hqq3:=Lib.hid hq3
  clear hq3
  go_enter Tryz.func98,Tryz.ntmps98
  repeat any_goals (first|go_skip|go_guarded|go_step|go_upon|(simp only [];done))
  go_loop [6,9] (fun c i=>(i=.int .i64 1∧c=.int .i64 (c0:Nat))∨(i=.int .i64 2∧c=.int .i64 (c0 * 64+m1:Nat)∧q1=true)∨(i=.int .i64 3∧c=.int .i64 ((c0 * 64+m1) * 64+m2:Nat)∧q1=true∧q2=true)∨(i=.int .i64 4∧c=.int .i64 (((c0 * 64+m1) * 64+m2) * 64+m3:Nat)∧q1=true∧q2=true∧q3=true)) (fun _ i=>5 - (intOf i).toNat)
  case atStart=>exact .inl ⟨rfl,rfl⟩
  case round=>
   rcases hrel with ⟨rfl,hcc⟩|⟨rfl,hcc,r1⟩|⟨rfl,hcc,r1,r2⟩|⟨rfl,hcc,r1,r2,r3⟩
   ·subst hcc
    cases q1 with
    | false=>
     have hqf:=hqq1.out
     have e:=HR.out
     rw [if_neg z0f] at e
     subst e
     exact z16zk2
    | true=>
     exact z16zk4
   ·subst hcc
    cases q2 with
    | false=>
     have hqf:=hqq2.out
     have e:=HR.out
     rw [if_neg z0f] at e
     subst e
     exact z16zk2
    | true=>
     have hqf:=hqq2.out
     repeat any_goals (first|go_skip|go_guarded|go_step|go_upon|(simp only [];done))
     go_round
     case rel=>exact .inr (.inr (.inl ⟨rfl,by simp,r1,by simp⟩))
     case measure=>simp [intOf]
   ·subst hcc
    cases q3 with
    | false=>
     have hqf:=hqq3.out
     have e:=HR.out
     rw [if_neg z0f] at e
     subst e
     exact z16zk2
    | true=>
     have hqf:=hqq3.out
     repeat any_goals (first|go_skip|go_guarded|go_step|go_upon|(simp only [];done))
     go_round
     case rel=>exact .inr (.inr (.inr (⟨rfl,by simp,r1,r2,by simp⟩)))
     case measure=>simp [intOf]
   ·rw [← HC.out] at hcc
    subst hcc
    by_cases l:65536≤C
    ·have l1:¬ (C:Int) < 65536:=by omega
     cases p with
     | false=>
      have e:=HR.out
      rw [if_neg z0f] at e
      subst e
      repeat any_goals (first|(go_at_call 115;refine (HP.out).mono ?_;rintro e w' ⟨rfl,rfl⟩)|go_skip|go_guarded|go_step|go_upon|(dsimp only []))
      exact z16zk3
     | true=>
      have e:=HR.out
      rw [if_pos ⟨HD.out,r1,r2,r3,l,rfl⟩] at e
      subst e
      repeat any_goals (first|(go_at_call 115;refine (HP.out).mono ?_;rintro e w' ⟨rfl,rfl⟩)|go_skip|go_guarded|go_step|go_upon|(dsimp only []))
      exact bodyPost_ret (v:=.tuple #[.int .i64 (C:Nat),.int .i64 4]) z0m rfl ⟨rfl,rfl⟩
    ·have l1:(C:Int) < 65536:=by omega
     have e:=HR.out
     rw [if_neg (fun h=>l h.2.2.2.2.1)] at e
     subst e
     exact z16zk2
 ·rw [if_neg (fun h=>d z0c)] at hR
  subst hR
  have j1:(n:Int) < (a:Int)+4:=by omega
  go_enter Tryz.func98,Tryz.ntmps98
  exact z16zk2
end Go.Proofs.YtfondldmmcmloaaGreatDoor
