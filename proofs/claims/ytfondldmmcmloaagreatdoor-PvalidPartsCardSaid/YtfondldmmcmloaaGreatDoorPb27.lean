/- PT, PU, QA, QB, QC, QD, QE, VSelf. -/
import Derived.Test.YtfondldmmcmloaaGreatDoorPb26
set_option maxRecDepth 1000000
set_option maxHeartbeats 8000000
namespace Go.Proofs.YtfondldmmcmloaaGreatDoor
open Go Go.RowKit
theorem z27zs1 {p q:Prop} (h:q) (e:q→p:=by intro hq;(try simp only [Act.put,List.setIfInBounds_toArray,List.set_cons_zero,List.set_cons_succ]);exact hq):p:=e h
theorem z27zk1 {p:Prop} (h:p:=by
 have h:=Tryz.underlying66
 unfold binOp eqT
 simp only [go_sem]
 unfold Op.equal Op.maxDepth Op.equalIn
 simp only [Sem.run_bind,run_underlying h,Result.andThen_ok]
 by_cases ek:k=k' <;> by_cases et:s=s' <;> simp [go_sem,ek,et] <;> exact fun h=>et (toList_inj h)):p:=h
theorem z27zk2 {p:Prop} (h:p:=by
 repeat any_goals (first|go_skip|go_guarded|go_step|go_upon|(simp only [];done))
 exact bodyPost_ret (v:=.bool false) z0e1 rfl ⟨by rw [few_no (by rw [HMB.out];unfold bigM;rw [anyN_of hb hjn];simp) hkn],hW1⟩):p:=h
end Go.Proofs.YtfondldmmcmloaaGreatDoor
namespace Go.Proofs.YtfondldmmcmloaaGreatDoor
open Go.RowKit
def bigH (m:PM):Bool:=decide (100 < m.name.size) || (decide (60 < m.nF) || (decide (120 < m.nN) || decide (120 < m.nS)))
def bigF (m:PM) (i:Nat):Bool:=decide (100 < (m.F i).name.size) || decide (100 < (m.F i).type.size)
def bigS (m:PM) (i:Nat):Bool:=decide (100 < (m.S i).size)
def bigM (m:PM):Bool:=bigH m || (anyN (bigF m) m.nF || anyN (bigS m) m.nS)
def fewP (M:Nat→PM) (n:Nat):Bool:=!(decide (60 < n) || anyN (fun k=>bigM (M k)) n)
theorem few_no {M:Nat→PM} {n k:Nat} (h:bigM (M k)=true) (hk:k < n):fewP M n=false:=by
 unfold fewP
 rw [anyN_of (p:=fun k=>bigM (M k)) h hk,Bool.or_true]
 rfl
/-- **Few** of law 22 -/
theorem PFew_any (a:Option Addr) (n c:Nat) (M:Nat→PM) (w:World) (h:PL w a n c M) :
  Calls Tryz.prog 6 #[.slice a n c] w fun e w'=>e=.returned (.bool (fewP M n))∧Below w.heap.size w w':=by
 have H:=Lib.hid h
 have g1:=h.l
 have g2:=h.lc
 simp only [maxLen] at g2
 clear h
 go_enter Tryz.func6,Tryz.ntmps6
 by_cases h2:(60:Int) < (n:Int)
 ·repeat any_goals (first|go_skip|go_guarded|go_step|go_upon|(simp only [];done))
  exact bodyPost_ret (v:=.bool false) z0e1 rfl ⟨by unfold fewP;rw [decide_eq_true z0c];rfl,zb2⟩
 repeat any_goals (first|go_skip|go_guarded|go_step|go_upon|(simp only [];done))
 go_loopw [3] (fun i wr=>∃ k:Nat,k≤n∧i=.int .i64 k∧anyN (fun k=>bigM (M k)) k=false∧Below w.heap.size w wr) (fun i _=>n - (intOf i).toNat)
 case atStart=>exact ⟨0,Nat.zero_le _,rfl,rfl,Below.refl _ _⟩
 case round=>
  obtain ⟨k,hk,rfl,hA,hW⟩:=hrel
  have HA:=Lib.hid hA
  clear hA
  by_cases hkn:k < n
  ·obtain ⟨b,off,rfl,hbl,hm,hin⟩:=m_lit H.out hkn hW
   obtain ⟨m,hmk⟩:∃ m,M k=m:=⟨_,rfl⟩
   rw [hmk] at hm hin
   have HIN:=Lib.hid hin
   have HMB:=Lib.hid hmk
   have l1:=hin.n.l
   have l2:=hin.n.lc
   have l3:=hin.t.l
   have l4:=hin.t.lc
   have l5:=hin.f.l
   have l6:=hin.f.lc
   have l7:=hin.s
   simp only [maxLen] at l2 l4 l6 l7
   obtain ⟨_,_,_,_⟩:=hm.all
   have i1:(k:Int) < (n:Int):=by omega
   have i2:(0:Int)≤(k:Int):=by omega
   have i5:(k:Int).toNat=k:=rfl
   clear hm hin hmk
   go_upto_region 7 with fail
   have M1:=Lib.hid (mbx_new wr m 45)
   have hW1:Below w.heap.size w (wr.alloc (.cells #[.string m.name,.slice m.aF m.nF m.cF,.slice m.aN m.nN m.cN,.slice m.aS m.nS m.cS] 45)):=below_alloc hW _
   have hV1:Below wr.heap.size wr (wr.alloc (.cells #[.string m.name,.slice m.aF m.nF m.cF,.slice m.aN m.nN m.cN,.slice m.aS m.nS m.cS] 45)):=below_alloc (Below.refl _ _) _
   generalize wr.alloc (.cells #[.string m.name,.slice m.aF m.nF m.cF,.slice m.aN m.nN m.cN,.slice m.aS m.nS m.cS] 45)=w1 at *
   obtain ⟨B1,hB1⟩:∃ B,B=wr.heap.size:=⟨_,rfl⟩
   rw [← hB1] at M1 ⊢
   clear hB1
   have IN1:=Lib.hid (HIN.out.below hV1)
   obtain ⟨_,_,_,_⟩:=M1.out.all
   by_cases c1:(100:Int) < (m.name.size:Int)
   ·repeat any_goals (first|go_skip|go_guarded|go_step|go_upon|(simp only [];done))
    exact bodyPost_ret (v:=.bool false) z0e1 rfl ⟨by rw [few_no (by rw [HMB.out];unfold bigM bigH;rw [decide_eq_true z0c];rfl) hkn],hW1⟩
   by_cases c2:(60:Int) < (m.nF:Int)
   ·repeat any_goals (first|go_skip|go_guarded|go_step|go_upon|(simp only [];done))
    exact bodyPost_ret (v:=.bool false) z0e1 rfl ⟨by rw [few_no (by rw [HMB.out];unfold bigM bigH;rw [decide_eq_true (show 60 < m.nF by omega)];simp) hkn],hW1⟩
   by_cases c3:(120:Int) < (m.nN:Int)
   ·repeat any_goals (first|go_skip|go_guarded|go_step|go_upon|(simp only [];done))
    exact bodyPost_ret (v:=.bool false) z0e1 rfl ⟨by rw [few_no (by rw [HMB.out];unfold bigM bigH;rw [decide_eq_true (show 120 < m.nN by omega)];simp) hkn],hW1⟩
   by_cases c4:(120:Int) < (m.nS:Int)
   ·repeat any_goals (first|go_skip|go_guarded|go_step|go_upon|(simp only [];done))
    exact bodyPost_ret (v:=.bool false) z0e1 rfl ⟨by rw [few_no (by rw [HMB.out];unfold bigM bigH;rw [decide_eq_true (show 120 < m.nS by omega)];simp) hkn],hW1⟩
   have HH:=Lib.hid (show bigH m=false by unfold bigH;rw [decide_eq_false z0c,decide_eq_false z0c,decide_eq_false z0c,decide_eq_false z0c];rfl)
   repeat any_goals (first|go_skip|go_guarded|go_step|go_upon|(simp only [];done))
   go_loopw [5] (fun i wq=>∃ j:Nat,j≤m.nF∧i=.int .i64 j∧anyN (bigF m) j=false∧w1=wq) (fun i _=>m.nF - (intOf i).toNat)
   case atStart=>exact ⟨0,Nat.zero_le _,rfl,rfl,rfl⟩
   case round=>
    obtain ⟨j,hj,rfl,hA3,rfl⟩:=hrel
    have H3:=Lib.hid hA3
    clear hA3
    by_cases hjn:j < m.nF
    ·obtain ⟨b',off',e1,-,hc,ho⟩:=f_lit IN1.out.f hjn (Below.refl _ _)
     have j1:(j:Int) < (m.nF:Int):=by omega
     have j2:(0:Int)≤(j:Int):=by omega
     have j3:(j:Int).toNat=j:=rfl
     obtain ⟨hc0,hc1,-,-,-,-⟩:=hc.all
     have o1:=ho.n
     have o2:=ho.t
     simp only [maxLen] at o1 o2
     clear hc ho
     by_cases d1:(100:Int) < ((m.F j).name.size:Int)
     ·have hb:bigF m j=true:=by unfold bigF;rw [decide_eq_true z0c];rfl
      exact z27zk2
     ·by_cases d2:(100:Int) < ((m.F j).type.size:Int)
      ·have hb:bigF m j=true:=by unfold bigF;rw [decide_eq_true (show 100 < (m.F j).type.size by omega),Bool.or_true]
       exact z27zk2
      ·have hb:bigF m j=false:=by unfold bigF;rw [decide_eq_false z0c,decide_eq_false z0c];rfl
       repeat any_goals (first|go_skip|go_guarded|go_step|go_upon|(simp only [];done))
       go_roundw
       case rel=>exact ⟨j+1,by omega,rfl,by show (anyN _ j || bigF m j)=false;rw [H3.out,hb];rfl,by trivial⟩
       case measure=>simp [intOf];omega
    ·have hj':j=m.nF:=by omega
     have j1:¬ (j:Int) < (m.nF:Int):=by omega
     have HN:=Lib.hid (show anyN (bigF m) m.nF=false by rw [← hj'];exact H3.out)
     clear hj'
     repeat any_goals (first|go_skip|go_guarded|go_step|go_upon|(simp only [];done))
     go_loopw [6] (fun i wq=>∃ j:Nat,j≤m.nS∧i=.int .i64 j∧anyN (bigS m) j=false∧w1=wq) (fun i _=>m.nS - (intOf i).toNat)
     case atStart=>exact ⟨0,Nat.zero_le _,rfl,rfl,rfl⟩
     case round=>
      obtain ⟨q,hq3,rfl,hA4,rfl⟩:=hrel
      have H4:=Lib.hid hA4
      clear hA4
      by_cases hqn:q < m.nS
      ·obtain ⟨b',off',e1,-,hc,hsz⟩:=s_lit IN1.out.t hqn (Below.refl _ _)
       have k1:(q:Int) < (m.nS:Int):=by omega
       have k2:(0:Int)≤(q:Int):=by omega
       have k3:(q:Int).toNat=q:=rfl
       simp only [maxLen] at hsz
       by_cases d1:(100:Int) < ((m.S q).size:Int)
       ·have hb:bigS m q=true:=by unfold bigS;exact decide_eq_true z0c
        repeat any_goals (first|go_skip|go_guarded|go_step|go_upon|(simp only [];done))
        exact bodyPost_ret (v:=.bool false) z0e1 rfl ⟨by rw [few_no (by rw [HMB.out];unfold bigM;rw [anyN_of hb hqn];simp) hkn],hW1⟩
       ·have hb:bigS m q=false:=by unfold bigS;exact decide_eq_false z0c
        repeat any_goals (first|go_skip|go_guarded|go_step|go_upon|(simp only [];done))
        go_roundw
        case rel=>exact ⟨q+1,by omega,rfl,by show (anyN _ q || bigS m q)=false;rw [H4.out,hb];rfl,by trivial⟩
        case measure=>simp [intOf];omega
      ·have hq':q=m.nS:=by omega
       have k1:¬ (q:Int) < (m.nS:Int):=by omega
       have HS:=Lib.hid (show anyN (bigS m) m.nS=false by rw [← hq'];exact H4.out)
       clear hq'
       repeat any_goals (first|go_skip|go_guarded|go_step|go_upon|(simp only [];done))
       go_roundw
       case rel=>exact ⟨k+1,by omega,rfl,by show (anyN _ k || bigM (M k))=false;rw [HA.out,HMB.out];unfold bigM;rw [HH.out,HN.out,HS.out];rfl,hW1⟩
       case measure=>simp [intOf];omega
  ·obtain rfl:k=n:=by omega
   have i1:¬ (k:Int) < (k:Int):=by omega
   repeat any_goals (first|go_skip|go_guarded|go_step|go_upon|(simp only [];done))
   exact bodyPost_ret (v:=.bool true) z0e1 rfl ⟨by unfold fewP;rw [decide_eq_false z0c,HA.out];rfl,hW⟩
structure TIn (w:World) (a:Option Addr) (n c:Nat) (K:Nat→Int) (S:Nat→ByteArray):Prop where
 l:n≤c
 lc:c≤maxLen
 c:n=0∨∃ b off,a=some ⟨b,off,none⟩∧b < w.heap.size∧∀ i,i < n→w.cell? ⟨b,off+i * 2,none⟩=some (.int .i64 (K i))∧w.cell? ⟨b,off+i * 2+1,none⟩=some (.string (S i))
theorem TIn.below {w w':World} {a:Option Addr} {n c:Nat} {K:Nat→Int} {S:Nat→ByteArray} (h:TIn w a n c K S) (hb:Below w.heap.size w w'):TIn w' a n c K S:=by
 refine ⟨h.l,h.lc,?_⟩
 rcases h.c with h0|⟨b,off,e,hl,hc⟩
 ·exact .inl h0
 ·exact .inr ⟨b,off,e,Nat.lt_of_lt_of_le hl hb.size,fun i hi=>⟨by rw [hb.cell (p:=⟨b,off+i * 2,none⟩) hl];exact (hc i hi).1,by rw [hb.cell (p:=⟨b,off+i * 2+1,none⟩) hl];exact (hc i hi).2⟩⟩
structure PBx (w:World) (B:Nat) (a:Option Addr) (n c i:Nat) (bad:Bool):Prop where
 c:w.cell? ⟨B,0,none⟩=some (.slice a n c)∧w.cell? ⟨B,1,none⟩=some (.int .i64 (i:Nat))∧w.cell? ⟨B,2,none⟩=some (.bool bad)
 f:∀ j,w.frozen? ⟨B,j,none⟩=false
theorem PBx.lt {w:World} {B:Nat} {a:Option Addr} {n c i:Nat} {bad:Bool} (h:PBx w B a n c i bad):B < w.heap.size:=World.block_lt_of_cell? w ⟨B,0,none⟩ h.c.1
theorem PBx.below {w w1:World} {B:Nat} {a:Option Addr} {n c i:Nat} {bad:Bool} (h:PBx w B a n c i bad) (hb:Below w.heap.size w w1):PBx w1 B a n c i bad:=by
 have hl:=h.lt
 obtain ⟨⟨h0,h1,h2⟩,hf⟩:=h
 exact ⟨⟨keep_cell hb h0,keep_cell hb h1,keep_cell hb h2⟩,fun j=>by rw [hb.frozen (p:=⟨B,j,none⟩) hl];exact hf j⟩
def tokK (K:Nat→Int) (n j:Nat):Int:=if j < n then K j else 0
def tokS (S:Nat→ByteArray) (n j:Nat):ByteArray:=if j < n then S j else ⟨#[]⟩
theorem At_any (B:Nat) (a:Option Addr) (n c i:Nat) (bad:Bool) (K:Nat→Int) (S:Nat→ByteArray) (k:Nat) (w:World) (hP:PBx w B a n c i bad) (hT:TIn w a n c K S) (hi:i≤1000000) (hk:k≤1) :
  Calls Tryz.prog 57 #[.pointer (some ⟨B,0,none⟩),.int .i64 (k:Nat)] w fun e w'=>e=.returned (.agg #[.int .i64 (tokK K n (i+k)),.string (tokS S n (i+k))])∧Below w.heap.size w w':=by
 have hB:=hP.lt
 obtain ⟨_,_,_⟩:=hP.c
 have l1:=hT.l
 have l2:=hT.lc
 simp only [maxLen] at l2
 by_cases h:i+k < n
 ·obtain ⟨b,off,rfl,hb,hc⟩:∃ b off,a=some ⟨b,off,none⟩∧b < w.heap.size∧∀ i,i < n→w.cell? ⟨b,off+i * 2,none⟩=some (.int .i64 (K i))∧w.cell? ⟨b,off+i * 2+1,none⟩=some (.string (S i)):=by
   rcases hT.c with h0|h0
   ·omega
   ·exact h0
  obtain ⟨c0,c1⟩:=hc _ h
  have e1:tokK K n (i+k)=K (i+k):=if_pos h
  have e2:tokS S n (i+k)=S (i+k):=if_pos h
  rw [e1,e2]
  clear e1 e2 hc hP hT
  have g1:((i:Int)+(k:Int)) < (n:Int):=by omega
  have g2:(0:Int)≤(i:Int)+(k:Int):=by omega
  have g3:((i:Int)+(k:Int)).toNat=i+k:=by omega
  go_enter Tryz.func57,Tryz.ntmps57
  repeat any_goals (first|go_region|go_skip|go_guarded|go_step|go_upon|(dsimp only []))
  exact bodyPost_ret (v:=.agg #[.int .i64 (K (i+k)),.string (S (i+k))]) (by simp [results,Tryz.results57,go_sem]) rfl ⟨rfl,zb2⟩
 ·have e1:tokK K n (i+k)=0:=if_neg h
  have e2:tokS S n (i+k)=⟨#[]⟩:=if_neg h
  rw [e1,e2]
  clear e1 e2 hP hT
  have g1:¬ ((i:Int)+(k:Int)) < (n:Int):=by omega
  go_enter Tryz.func57,Tryz.ntmps57
  repeat any_goals (first|go_region|go_skip|go_guarded|go_step|go_upon|(dsimp only []))
  exact bodyPost_ret (v:=.agg #[.int .i64 0,.string ⟨#[]⟩]) (by simp [results,Tryz.results57,go_sem]) rfl ⟨rfl,zb2⟩
def eqT (k:Int) (s:ByteArray) (k':Int) (s':ByteArray):Bool:=k == k' && decide (s=s')
theorem neqT_run (k k':Int) (s s':ByteArray) (w:World):(binOp .neq 66 (.agg #[.int .i64 k,.string s]) (.agg #[.int .i64 k',.string s'])).run Tryz.prog w=.ok (.bool (!eqT k s k' s')) w:=by
 exact z27zk1
theorem But.of {b f:Nat} {w w1:World} (h:Below w.heap.size w w1):But b f w w1:=⟨h.os,h.tape,h.output,h.size,fun k hk _ _=>h.block k hk⟩
theorem But.set1 {b f j:Nat} {w w1:World} {v:Value} (h:But b f w w1):But b f w (w1.setCell ⟨b,j,none⟩ v):=
 ⟨h.os,h.tape,h.output,by simpa using h.size,fun k hk hb hf=>by rw [Below.heap_setCell _ _ _ _ hb];exact h.block k hk hb hf⟩
structure TKx (w:World) (B:Nat) (k:Int) (s:ByteArray):Prop where
 all:w.cell? ⟨B,0,none⟩=some (.int .i64 k)∧w.cell? ⟨B,1,none⟩=some (.string s)∧True∧True∧True
theorem TKx.below {w w1:World} {B:Nat} {k:Int} {s:ByteArray} (h:TKx w B k s) (hb:Below w.heap.size w w1):TKx w1 B k s:=⟨keep_cell hb h.all.1,keep_cell hb h.all.2.1,trivial,trivial,trivial⟩
theorem PBx.all {w:World} {B:Nat} {a:Option Addr} {n c i:Nat} {bad:Bool} (h:PBx w B a n c i bad):w.cell? ⟨B,0,none⟩=some (.slice a n c)∧w.cell? ⟨B,1,none⟩=some (.int .i64 (i:Nat))∧w.cell? ⟨B,2,none⟩=some (.bool bad)∧True∧True:=⟨h.c.1,h.c.2.1,h.c.2.2,trivial,trivial⟩
def isB (K:Nat→Int) (S:Nat→ByteArray) (n i:Nat) (bad:Bool) (k:Int) (s:ByteArray):Bool:=!bad && eqT (tokK K n i) (tokS S n i) k s
theorem Is_any (B:Nat) (a:Option Addr) (n c i:Nat) (bad:Bool) (K:Nat→Int) (S:Nat→ByteArray) (k:Int) (s:ByteArray) (w:World) (hP:PBx w B a n c i bad) (hT:TIn w a n c K S) (hi:i≤1000000) :
  Calls Tryz.prog 31 #[.pointer (some ⟨B,0,none⟩),.agg #[.int .i64 k,.string s]] w fun e w'=>e=.returned (.bool (isB K S n i bad k s))∧PBx w' B a n c (if isB K S n i bad k s=true then i+1 else i) bad∧But B B w w':=by
 have HP:=Lib.hid hP
 have HT:=Lib.hid hT
 have hB:=hP.lt
 have C1:Hid (∀ wx:World,Below w.heap.size w wx→Calls Tryz.prog 57 #[.pointer (some ⟨B,0,none⟩),.int .i64 0] wx fun e w'=>e=.returned (.agg #[.int .i64 (tokK K n i),.string (tokS S n i)])∧Below wx.heap.size wx w'):=Lib.hid fun wx hx=>At_any B a n c i bad K S 0 wx (HP.out.below hx) (HT.out.below hx) hi z0c
 unfold isB
 obtain ⟨tk,htk⟩:∃ x,x=tokK K n i:=⟨_,rfl⟩
 obtain ⟨ts,hts⟩:∃ x,x=tokS S n i:=⟨_,rfl⟩
 rw [← htk,← hts] at C1 ⊢
 clear htk hts
 have q0:=neqT_run tk k ts s
 obtain ⟨r,hr⟩:∃ r,r=eqT tk ts k s:=⟨_,rfl⟩
 rw [← hr] at q0 ⊢
 clear hr hT
 obtain ⟨_,_,_⟩:=hP.c
 have hfz:=hP.f
 clear hP
 cases bad with
 | true=>
  go_enter Tryz.func31,Tryz.ntmps31
  repeat any_goals (first|go_region|go_skip|go_guarded|go_step|go_upon|(dsimp only []))
  exact bodyPost_ret (v:=.bool false) (by simp [results,Tryz.results31,go_sem]) rfl ⟨rfl,by simpa using HP.out.below zb2,But.of zb2⟩
 | false=>
  go_enter Tryz.func31,Tryz.ntmps31
  go_upto_region 1 with fail
  have hW:Below w.heap.size w (w.alloc (.cells #[.int .i64 k,.string s] 66)):=zb2
  have X:=Lib.hid (show TKx (w.alloc (.cells #[.int .i64 k,.string s] 66)) w.heap.size k s from ⟨by simp [go_sem]⟩)
  have Y:=Lib.hid (HP.out.below hW)
  have hsz:w.heap.size < (w.alloc (.cells #[.int .i64 k,.string s] 66)).heap.size:=by simp
  generalize (w.alloc (.cells #[.int .i64 k,.string s] 66))=W at *
  cases r with
  | false=>
   (obtain ⟨C_,hC⟩:∃ C:World→Prop,C=fun w'=>Below (W).heap.size (W) w':=⟨_,rfl⟩;have HC:=Lib.hid hC;have hne:∀ p:Prop,(∀ w1:World,C_ w1→p)=p:=fun p=>propext ⟨fun h=>h (W) z0i,fun h _ _=>h⟩;clear hC;refine wp_region_quiet_cls (C:=C_) z0a z0a z0g ?_)
   (go_big_quiet_want;go_big_quiet_op;go_big_quiet_on)
   (go_big_quiet_want;go_big_quiet_op;go_big_quiet_on)
   (go_big_quiet_want;go_big_quiet_op;go_big_quiet_on)
   (go_big_quiet_want;refine ⟨.bool false,fun w1 hw1=>?_,?_⟩;(rw [HC.out] at hw1;obtain ⟨_,_,_,_,_⟩:=(Y.out.below hw1).all;simp [Oper.quietAt,go_sem, *]);refine z27zs1 ?_;go_big_quiet_on)
   (go_big_quiet_want;go_big_quiet_op;go_big_quiet_on)
   (go_big_quiet_want;go_big_quiet_op;go_big_quiet_on)
   (go_big_quiet_want;go_big_quiet_op;refine ⟨.agg #[.int .i64 tk,.string ts],fun w1 hw1=>?_,?_⟩;(rw [HC.out] at hw1 ⊢;with_reducible refine (C1.out _ (below_trans hW hw1)).mono ?_;rintro e w4 ⟨rfl,hb4⟩;exact ⟨rfl,below_trans hw1 hb4⟩);go_big_quiet_on)
   (go_big_quiet_want;refine ⟨.agg #[.int .i64 k,.string s],fun w1 hw1=>?_,?_⟩;(rw [HC.out] at hw1;obtain ⟨_,_,_,_,_⟩:=(X.out.below hw1).all;simp [Oper.quietAt,go_sem, *]);refine z27zs1 ?_;go_big_quiet_on)
   (go_big_quiet_want;refine ⟨.bool true,fun w1 hw1=>?_,?_⟩;(rw [HC.out] at hw1;obtain ⟨_,_,_,_,_⟩:=(X.out.below hw1).all;simp [Oper.quietAt,go_sem, *]);refine z27zs1 ?_;go_big_quiet_on)
   (go_big_quiet_want;go_big_quiet_op;go_big_quiet_on)
   (refine wpQuiet_nil ?_;intro w2 hw2;rw [HC.out] at hw2)
   repeat any_goals (first|go_skip|go_guarded|go_step|go_upon|(simp only [];done))
   exact bodyPost_ret (v:=.bool false) (by simp [results,Tryz.results31,go_sem]) rfl ⟨rfl,by simpa using Y.out.below hw2,But.of (below_trans hW hw2)⟩
  | true=>
   (obtain ⟨C_,hC⟩:∃ C:World→Prop,C=fun w'=>Below (W).heap.size (W) w':=⟨_,rfl⟩;have HC:=Lib.hid hC;have hne:∀ p:Prop,(∀ w1:World,C_ w1→p)=p:=fun p=>propext ⟨fun h=>h (W) z0i,fun h _ _=>h⟩;clear hC;refine wp_region_quiet_cls (C:=C_) z0a z0a z0g ?_)
   (go_big_quiet_want;go_big_quiet_op;go_big_quiet_on)
   (go_big_quiet_want;go_big_quiet_op;go_big_quiet_on)
   (go_big_quiet_want;go_big_quiet_op;go_big_quiet_on)
   (go_big_quiet_want;refine ⟨.bool false,fun w1 hw1=>?_,?_⟩;(rw [HC.out] at hw1;obtain ⟨_,_,_,_,_⟩:=(Y.out.below hw1).all;simp [Oper.quietAt,go_sem, *]);refine z27zs1 ?_;go_big_quiet_on)
   (go_big_quiet_want;go_big_quiet_op;go_big_quiet_on)
   (go_big_quiet_want;go_big_quiet_op;go_big_quiet_on)
   (go_big_quiet_want;go_big_quiet_op;refine ⟨.agg #[.int .i64 tk,.string ts],fun w1 hw1=>?_,?_⟩;(rw [HC.out] at hw1 ⊢;with_reducible refine (C1.out _ (below_trans hW hw1)).mono ?_;rintro e w4 ⟨rfl,hb4⟩;exact ⟨rfl,below_trans hw1 hb4⟩);go_big_quiet_on)
   (go_big_quiet_want;refine ⟨.agg #[.int .i64 k,.string s],fun w1 hw1=>?_,?_⟩;(rw [HC.out] at hw1;obtain ⟨_,_,_,_,_⟩:=(X.out.below hw1).all;simp [Oper.quietAt,go_sem, *]);refine z27zs1 ?_;go_big_quiet_on)
   (go_big_quiet_want;refine ⟨.bool false,fun w1 hw1=>?_,?_⟩;(rw [HC.out] at hw1;obtain ⟨_,_,_,_,_⟩:=(X.out.below hw1).all;simp [Oper.quietAt,go_sem, *]);refine z27zs1 ?_;go_big_quiet_on)
   (go_big_quiet_want;go_big_quiet_op;go_big_quiet_on)
   (refine wpQuiet_nil ?_;intro w2 hw2;rw [HC.out] at hw2)
   have Y2:=Lib.hid (Y.out.below hw2)
   obtain ⟨_,_,_,_,_⟩:=Y2.out.all
   have hf2:=Y2.out.f
   have hl2:=Y2.out.lt
   repeat any_goals (first|go_skip|go_guarded|go_step|go_upon|(simp only [];done))
   exact bodyPost_ret (v:=.bool true) (by simp [results,Tryz.results31,go_sem]) rfl ⟨rfl,⟨by simp [go_sem, *],fun j=>by simp [go_sem, *]⟩,(But.of (below_trans hW hw2)).set1⟩
def takeI (K:Nat→Int) (S:Nat→ByteArray) (n i:Nat) (bad:Bool) (k:Int) (s:ByteArray):Nat:=if isB K S n i bad k s=true then i+1 else i
theorem Take_any (B:Nat) (a:Option Addr) (n c i:Nat) (bad:Bool) (K:Nat→Int) (S:Nat→ByteArray) (k:Int) (s:ByteArray) (w:World) (hP:PBx w B a n c i bad) (hT:TIn w a n c K S) (hi:i≤1000000) :
  Calls Tryz.prog 29 #[.pointer (some ⟨B,0,none⟩),.int .i64 k,.string s] w fun e w'=>e=.returned (.tuple #[])∧PBx w' B a n c (takeI K S n i bad k s) (!isB K S n i bad k s)∧But B B w w':=by
 have C1:=Lib.hid (Is_any B a n c i bad K S k s w hP hT hi)
 unfold takeI
 obtain ⟨r,hr⟩:∃ r,r=isB K S n i bad k s:=⟨_,rfl⟩
 have hbad:r=true→bad=false:=by intro h;rw [hr] at h;unfold isB at h;cases bad <;> simp_all
 rw [← hr] at C1 ⊢
 clear hr hT hP
 cases r with
 | true=>
  obtain rfl:=hbad rfl
  go_enter Tryz.func29,Tryz.ntmps29
  repeat any_goals (first|(go_at_call 31;with_reducible refine C1.out.mono ?_;rintro e w1 ⟨rfl,hp1,hq1⟩)|go_skip|go_guarded|go_step|go_upon|(dsimp only []))
  exact bodyPost_end (v:=.tuple #[]) (by simp [results,Tryz.results29,go_sem]) rfl ⟨rfl,by simpa using hp1,hq1⟩
 | false=>
  clear hbad
  go_enter Tryz.func29,Tryz.ntmps29
  repeat any_goals (first|(go_at_call 31;with_reducible refine C1.out.mono ?_;rintro e w1 ⟨rfl,hp1,hq1⟩;have hl1:=hp1.lt;obtain ⟨_,_,_⟩:=hp1.c;have hf1:=hp1.f)|go_skip|go_guarded|go_step|go_upon|(dsimp only []))
  exact bodyPost_end (v:=.tuple #[]) (by simp [results,Tryz.results29,go_sem]) rfl ⟨rfl,⟨by simp [go_sem, *],fun j=>by simp [go_sem, *]⟩,hq1.set1⟩
def wordB (K:Nat→Int) (n i:Nat) (bad:Bool) (k:Int):Bool:=!bad && (tokK K n i == k)
theorem Word_any (B:Nat) (a:Option Addr) (n c i:Nat) (bad:Bool) (K:Nat→Int) (S:Nat→ByteArray) (k:Int) (w:World) (hP:PBx w B a n c i bad) (hT:TIn w a n c K S) (hi:i≤1000000) :
  Calls Tryz.prog 30 #[.pointer (some ⟨B,0,none⟩),.int .i64 k] w fun e w'=>e=.returned (.string (if wordB K n i bad k=true then tokS S n i else ⟨#[]⟩))∧PBx w' B a n c (if wordB K n i bad k=true then i+1 else i) (!wordB K n i bad k)∧But B B w w':=by
 have HP:=Lib.hid hP
 have HT:=Lib.hid hT
 have C1:Hid (∀ wx:World,Below w.heap.size w wx→Calls Tryz.prog 57 #[.pointer (some ⟨B,0,none⟩),.int .i64 0] wx fun e w'=>e=.returned (.agg #[.int .i64 (tokK K n i),.string (tokS S n i)])∧Below wx.heap.size wx w'):=Lib.hid fun wx hx=>At_any B a n c i bad K S 0 wx (HP.out.below hx) (HT.out.below hx) hi z0c
 have hB:=hP.lt
 unfold wordB
 obtain ⟨tk,htk⟩:∃ x,x=tokK K n i:=⟨_,rfl⟩
 obtain ⟨ts,hts⟩:∃ x,x=tokS S n i:=⟨_,rfl⟩
 rw [← htk,← hts] at C1 ⊢
 clear htk hts hT hP
 go_enter Tryz.func30,Tryz.ntmps30
 go_upto_region 2 with (go_at_call 57;with_reducible refine (C1.out _ (Below.refl _ _)).mono ?_;rintro e w1 ⟨rfl,hb1⟩)
 have hW:Below w.heap.size w (w1.alloc (.cells #[.int .i64 tk,.string ts] 66)):=below_alloc hb1 _
 have X:=Lib.hid (show TKx (w1.alloc (.cells #[.int .i64 tk,.string ts] 66)) w1.heap.size tk ts from ⟨by simp [go_sem]⟩)
 have Y:=Lib.hid (HP.out.below hW)
 have hne:¬ B=w1.heap.size:=by have:=hb1.size;omega
 have hne':¬ w1.heap.size=B:=fun h=>hne h.symm
 generalize w1.alloc (.cells #[.int .i64 tk,.string ts] 66)=W at *
 obtain ⟨_,_,_,_,_⟩:=X.out.all
 obtain ⟨_,_,_,_,_⟩:=Y.out.all
 have hf2:=Y.out.f
 have hl2:=Y.out.lt
 cases bad with
 | true=>
  repeat any_goals (first|go_region|go_skip|go_guarded|go_step|go_upon|(dsimp only []))
  exact bodyPost_ret (v:=.string ⟨#[]⟩) (by simp [results,Tryz.results30,go_sem]) rfl ⟨rfl,⟨by simp [go_sem, *],fun j=>by simp [go_sem, *]⟩,(But.of hW).set1⟩
 | false=>
  by_cases h:tk=k
  ·subst h
   repeat any_goals (first|go_region|go_skip|go_guarded|go_step|go_upon|(dsimp only []))
   exact bodyPost_ret (v:=.string ts) (by simp [results,Tryz.results30,go_sem]) rfl ⟨by simp,⟨by simp [go_sem, *],fun j=>by simp [go_sem, *]⟩,(But.of hW).set1⟩
  ·have e1:(tk == k)=false:=beq_false_of_ne h
   have e2:(tk != k)=true:=bne_iff_ne.2 h
   repeat any_goals (first|go_region|go_skip|go_guarded|go_step|go_upon|(dsimp only []))
   exact bodyPost_ret (v:=.string ⟨#[]⟩) (by simp [results,Tryz.results30,go_sem]) rfl ⟨by simp [h],⟨by simp [go_sem, *],fun j=>by simp [go_sem, *]⟩,(But.of hW).set1⟩
def valN (s:ByteArray):Nat→Nat
 | 0=>0
 | k+1=>valN s k * 10+(byteN s k - 48)
theorem valN_lt {s:ByteArray} {k:Nat} (h:∀ j,j < k→byteN s j≤57):valN s k < 10 ^ k:=by
 induction k with
 | zero=>simp [valN]
 | succ k ih=>
  have h1:=ih fun j hj=>h j z0c
  have h2:=h k z0c
  show valN s k * 10+(byteN s k - 48) < 10 ^ (k+1)
  rw [Nat.pow_succ]
  omega
theorem Number22_any (B:Nat) (a:Option Addr) (n c i:Nat) (bad:Bool) (K:Nat→Int) (S:Nat→ByteArray) (w:World) (hP:PBx w B a n c i bad) (hT:TIn w a n c K S) (hi:i≤1000000)
  (s:ByteArray) (hs:s=if wordB K n i bad 2=true then tokS S n i else ⟨#[]⟩) (h9:s.size≤9) (hd:∀ j,j < s.size→48≤byteN s j∧byteN s j≤57) :
  Calls Tryz.prog 58 #[.pointer (some ⟨B,0,none⟩)] w fun e w'=>e=.returned (.int .i64 (valN s s.size:Nat))∧PBx w' B a n c (if wordB K n i bad 2=true then i+1 else i) (!wordB K n i bad 2)∧But B B w w':=by
 have C1:=Lib.hid (Word_any B a n c i bad K S 2 w hP hT hi)
 rw [← hs] at C1
 have HD:=Lib.hid hd
 obtain ⟨r,hr⟩:∃ r,r=wordB K n i bad 2:=⟨_,rfl⟩
 rw [← hr] at C1 ⊢
 clear hr hs hd hP hT
 go_enter Tryz.func58,Tryz.ntmps58
 repeat any_goals (first|(go_at_call 30;with_reducible refine C1.out.mono ?_;rintro e w1 ⟨rfl,hp1,hq1⟩;have HP1:=Lib.hid hp1;have HQ1:=Lib.hid hq1;clear hp1 hq1)|go_skip|go_guarded|go_step|go_upon|(dsimp only []))
 go_loopw [4,5] (fun v i wq=>∃ k:Nat,k≤s.size∧v=.int .i64 (valN s k:Nat)∧i=.int .i64 k∧w1=wq) (fun _ i _=>s.size - (intOf i).toNat)
 case atStart=>exact ⟨0,Nat.zero_le _,rfl,rfl,rfl⟩
 case round=>
  obtain ⟨k,hk,rfl,rfl,rfl⟩:=hrel
  by_cases hkn:k < s.size
  ·have i1:(k:Int) < (s.size:Int):=by omega
   have i2:(0:Int)≤(k:Int):=by omega
   have i5:(k:Int).toNat=k:=rfl
   have d0:=HD.out k hkn
   have e0:valN s (k+1)=valN s k * 10+(byteN s k - 48):=rfl
   have v0:=valN_lt (s:=s) (k:=k) fun j hj=>(HD.out j z0c).2
   have v1:(10:Nat) ^ k≤10 ^ 8:=Nat.pow_le_pow_right z0c z0c
   rw [byteN_at s k hkn] at d0 e0
   obtain ⟨V,hV⟩:∃ V,valN s k=V:=⟨_,rfl⟩
   rw [hV] at e0 v0
   have E0:=Lib.hid e0
   have v2:(V:Int) < 100000000:=by omega
   have v3:(0:Int)≤(V:Int):=by omega
   have d1:(48:Int)≤((s[k]'hkn).toNat:Int):=by omega
   have d2:((s[k]'hkn).toNat:Int)≤57:=by omega
   clear e0 v0 v1 d0
   rw [hV]
   clear hV
   repeat any_goals (first|go_skip|go_guarded|go_step|go_upon|(simp only [];done))
   go_roundw
   case rel=>exact ⟨k+1,by omega,by rw [E0.out];congr 1;omega,rfl,by trivial⟩
   case measure=>simp [intOf];omega
  ·have hk':k=s.size:=by omega
   have i1:¬ (k:Int) < (s.size:Int):=by omega
   repeat any_goals (first|go_skip|go_guarded|go_step|go_upon|(simp only [];done))
   exact bodyPost_ret (v:=.int .i64 (valN s k:Nat)) (by simp [results,Tryz.results58,go_sem]) rfl ⟨by rw [hk'],HP1.out,HQ1.out⟩
theorem eqT_run (k k':Int) (s s':ByteArray) (w:World):(binOp .eql 66 (.agg #[.int .i64 k,.string s]) (.agg #[.int .i64 k',.string s'])).run Tryz.prog w=.ok (.bool (eqT k s k' s')) w:=by
 exact z27zk1
theorem But.trans2 {b f:Nat} {w w1 w2:World} (h:But b f w w1) (k:But b f w1 w2):But b f w w2:=
 ⟨k.os.trans h.os,k.tape.trans h.tape,k.output.trans h.output,Nat.le_trans h.size k.size,fun j hj h1 h2=>(k.block j (Nat.lt_of_lt_of_le hj h.size) h1 h2).trans (h.block j hj h1 h2)⟩
theorem But.frozen {b f:Nat} {w w1:World} {p:Addr} (h:But b f w w1) (hl:p.block < w.heap.size) (hb:p.block≠b) (hf:p.block≠f):w1.frozen? p=w.frozen? p:=by
 unfold World.frozen?
 rw [h.block p.block hl hb hf]
theorem TIn.but {b f:Nat} {w w1:World} {a:Option Addr} {n c:Nat} {K:Nat→Int} {S:Nat→ByteArray} (h:TIn w a n c K S) (k:But b f w w1) (hb:∀ ad,a=some ad→ad.block≠b∧ad.block≠f):TIn w1 a n c K S:=by
 refine ⟨h.l,h.lc,?_⟩
 rcases h.c with h0|⟨g,off,e,hl,hc⟩
 ·exact .inl h0
 ·have hne:=hb _ e
  exact .inr ⟨g,off,e,Nat.lt_of_lt_of_le hl k.size,fun i hi=>⟨k.cell hne.1 hne.2 (hc i hi).1,k.cell hne.1 hne.2 (hc i hi).2⟩⟩
theorem PNorm_no (a:Option Addr) (n c:Nat) (kind:Int) (neg:Bool) (V bits:Nat) (text:ByteArray) (aL:Option Addr) (nL cL:Nat) (aK:Option Addr) (nK cK:Nat) (w:World)
  (C1:Hid (∀ wr:World,Below w.heap.size w wr→Calls Tryz.prog 11 #[.slice a n c,.agg #[.int .i64 kind,.bool neg,.int .u64 (lm V 0:Nat),.int .u64 (lm V 1:Nat),.int .u64 (lm V 2:Nat),.int .u64 (lm V 3:Nat),.int .u64 (bits:Nat),.string text,.slice aL nL cL,.slice aK nK cK]] wr fun e w'=>e=.returned (.bool false)∧Below wr.heap.size wr w')) :
  Calls Tryz.prog 9 #[.slice a n c,.agg #[.int .i64 kind,.bool neg,.int .u64 (lm V 0:Nat),.int .u64 (lm V 1:Nat),.int .u64 (lm V 2:Nat),.int .u64 (lm V 3:Nat),.int .u64 (bits:Nat),.string text,.slice aL nL cL,.slice aK nK cK]] w fun e w'=>e=.returned (.tuple #[.agg #[.int .i64 0,.bool false,.int .u64 0,.int .u64 0,.int .u64 0,.int .u64 0,.int .u64 0,.string ⟨#[]⟩,.slice none 0 0,.slice none 0 0],.bool false])∧Below w.heap.size w w':=by
 go_enter Tryz.func9,Tryz.ntmps9
 go_upto_region 1 with fail
 have hW:Below w.heap.size w ((w.alloc (.cells #[.int .i64 kind,.bool neg,.int .u64 (lm V 0:Nat),.int .u64 (lm V 1:Nat),.int .u64 (lm V 2:Nat),.int .u64 (lm V 3:Nat),.int .u64 (bits:Nat),.string text,.slice aL nL cL,.slice aK nK cK] 31)).alloc (.cells #[.int .i64 0,.bool false,.int .u64 0,.int .u64 0,.int .u64 0,.int .u64 0,.int .u64 0,.string ⟨#[]⟩,.slice none 0 0,.slice none 0 0] 31)):=zb2
 have X:=Lib.hid ((vbx_new w 31 kind neg V bits text aL nL cL aK nK cK).below (show Below (w.alloc (.cells #[.int .i64 kind,.bool neg,.int .u64 (lm V 0:Nat),.int .u64 (lm V 1:Nat),.int .u64 (lm V 2:Nat),.int .u64 (lm V 3:Nat),.int .u64 (bits:Nat),.string text,.slice aL nL cL,.slice aK nK cK] 31)).heap.size (w.alloc (.cells #[.int .i64 kind,.bool neg,.int .u64 (lm V 0:Nat),.int .u64 (lm V 1:Nat),.int .u64 (lm V 2:Nat),.int .u64 (lm V 3:Nat),.int .u64 (bits:Nat),.string text,.slice aL nL cL,.slice aK nK cK] 31)) ((w.alloc (.cells #[.int .i64 kind,.bool neg,.int .u64 (lm V 0:Nat),.int .u64 (lm V 1:Nat),.int .u64 (lm V 2:Nat),.int .u64 (lm V 3:Nat),.int .u64 (bits:Nat),.string text,.slice aL nL cL,.slice aK nK cK] 31)).alloc (.cells #[.int .i64 0,.bool false,.int .u64 0,.int .u64 0,.int .u64 0,.int .u64 0,.int .u64 0,.string ⟨#[]⟩,.slice none 0 0,.slice none 0 0] 31)) from zb2))
 have Y:=Lib.hid (show RBx ((w.alloc (.cells #[.int .i64 kind,.bool neg,.int .u64 (lm V 0:Nat),.int .u64 (lm V 1:Nat),.int .u64 (lm V 2:Nat),.int .u64 (lm V 3:Nat),.int .u64 (bits:Nat),.string text,.slice aL nL cL,.slice aK nK cK] 31)).alloc (.cells #[.int .i64 0,.bool false,.int .u64 0,.int .u64 0,.int .u64 0,.int .u64 0,.int .u64 0,.string ⟨#[]⟩,.slice none 0 0,.slice none 0 0] 31)) (w.heap.size+1) (.int .i64 0) (.bool false) (.int .u64 0) (.int .u64 0) (.int .u64 0) (.int .u64 0) (.int .u64 0) (.string ⟨#[]⟩) (.slice none 0 0) (.slice none 0 0) from ⟨by simp [go_sem]⟩)
 have hf:∀ j,((w.alloc (.cells #[.int .i64 kind,.bool neg,.int .u64 (lm V 0:Nat),.int .u64 (lm V 1:Nat),.int .u64 (lm V 2:Nat),.int .u64 (lm V 3:Nat),.int .u64 (bits:Nat),.string text,.slice aL nL cL,.slice aK nK cK] 31)).alloc (.cells #[.int .i64 0,.bool false,.int .u64 0,.int .u64 0,.int .u64 0,.int .u64 0,.int .u64 0,.string ⟨#[]⟩,.slice none 0 0,.slice none 0 0] 31)).frozen? ⟨w.heap.size+1,j,none⟩=false:=fun j=>by simp [go_sem]
 have hl:w.heap.size+1 < ((w.alloc (.cells #[.int .i64 kind,.bool neg,.int .u64 (lm V 0:Nat),.int .u64 (lm V 1:Nat),.int .u64 (lm V 2:Nat),.int .u64 (lm V 3:Nat),.int .u64 (bits:Nat),.string text,.slice aL nL cL,.slice aK nK cK] 31)).alloc (.cells #[.int .i64 0,.bool false,.int .u64 0,.int .u64 0,.int .u64 0,.int .u64 0,.int .u64 0,.string ⟨#[]⟩,.slice none 0 0,.slice none 0 0] 31)).heap.size:=by simp
 generalize (w.alloc (.cells #[.int .i64 kind,.bool neg,.int .u64 (lm V 0:Nat),.int .u64 (lm V 1:Nat),.int .u64 (lm V 2:Nat),.int .u64 (lm V 3:Nat),.int .u64 (bits:Nat),.string text,.slice aL nL cL,.slice aK nK cK] 31)).alloc (.cells #[.int .i64 0,.bool false,.int .u64 0,.int .u64 0,.int .u64 0,.int .u64 0,.int .u64 0,.string ⟨#[]⟩,.slice none 0 0,.slice none 0 0] 31)=W at *
 obtain ⟨_,_,_,_,_,_,_,_,_,_⟩:=X.out.all
 obtain ⟨B1,hB1⟩:∃ B,B=w.heap.size+1:=⟨_,rfl⟩
 have hbb:w.heap.size≤B1:=by omega
 rw [← hB1] at Y hf hl ⊢
 clear hB1
 repeat any_goals (first|(go_at_call 11;with_reducible refine (C1.out _ hW).mono ?_;rintro e w1 ⟨rfl,hb1⟩;have hl1:=Nat.lt_of_lt_of_le hl hb1.size;have Y1:=Lib.hid (Y.out.below hb1);obtain ⟨_,_,_,_,_,_,_,_,_,_⟩:=Y1.out.all;have hf1:∀ j,w1.frozen? ⟨B1,j,none⟩=false:=fun j=>(hb1.frozen (p:=⟨B1,j,none⟩) hl).trans (hf j);have hW1:=below_trans hW hb1)|go_skip|go_guarded|go_step|go_upon|(dsimp only []))
 exact bodyPost_ret (v:=.tuple #[.agg #[.int .i64 0,.bool false,.int .u64 0,.int .u64 0,.int .u64 0,.int .u64 0,.int .u64 0,.string ⟨#[]⟩,.slice none 0 0,.slice none 0 0],.bool false]) (by simp [results,Tryz.results9,go_sem, *]) rfl ⟨rfl,zb2⟩
theorem anyN_no0 {p:Nat→Bool} {n:Nat} (h:∀ i,i < n→p i=false):anyN p n=false:=by
 induction n with
 | zero=>rfl
 | succ k ih=>
  simp only [anyN]
  rw [ih fun i hi=>h i z0c,h k z0c]
  rfl
end Go.Proofs.YtfondldmmcmloaaGreatDoor
