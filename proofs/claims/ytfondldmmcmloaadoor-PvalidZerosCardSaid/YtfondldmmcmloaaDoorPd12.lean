/- PF, Utf, VLong, VDep. -/
import Derived.Shelf.Abstract
import Derived.Test.YtfondldmmcmloaaDoorPd11
set_option maxRecDepth 1000000
set_option maxHeartbeats 8000000
namespace Go.Proofs.YtfondldmmcmloaaDoor
open Go Go.RowKit
theorem z12zk1 {p:Prop} (h:p:=by
 (try have cp1:(z3 == (k:Int))=true:=beq_iff_eq.2 cp)
 (try have cp2:(z3 == (k:Int))=false:=beq_false_of_ne cp)
 have hb:msgBad M n k=true:=by rw [HMB.out];simp [*]
 (try subst cp)
 repeat any_goals (first|(go_at_call 30;with_reducible refine (C1.out _).mono ?_;rintro e w3 ⟨rfl,rfl⟩)|(go_at_call 31;with_reducible refine (C2.out _).mono ?_;rintro e w3 ⟨rfl,rfl⟩)|(go_at_call 32;refine (C4.out _ _ L4.out).mono ?_;rintro e w4 ⟨rfl,rfl⟩)|(go_at_call 33;refine (C3.out _ hW2).mono ?_;rintro e w5 ⟨rfl,hb5⟩;have M5:=Lib.hid (M2.out.below hb5);obtain ⟨_,_,_,_⟩:=M5.out.all;have hW5:=below_trans hW2 hb5;have hV5:=below_trans hV2 hb5)|(go_at_call 34;with_reducible refine (C5.out _ hW5 hV5).mono ?_;rintro e w6 ⟨rfl,hb6⟩;have hW6:=below_trans hW5 hb6)|go_skip|go_guarded|go_step|go_upon|(dsimp only []))
 exact bodyPost_ret (v:=.int .i64 7) z0x rfl ⟨by rw [check_bad hb hkn],by first|exact hW6|exact hW5|exact hW2|exact hW1⟩):p:=h
theorem z12zk2 {p:Prop} (h:p:=by
 go_enter Tryd.func37,Tryd.ntmps37
 repeat any_goals (first|go_skip|go_guarded|go_step|go_upon|(simp only [];done))
 exact bodyPost_ret (v:=.bool true) (by simp [results,Tryd.results37,go_sem]) rfl ⟨rfl,zb2⟩):p:=h
end Go.Proofs.YtfondldmmcmloaaDoor
namespace Go.Proofs.YtfondldmmcmloaaDoor
open Go.RowKit
def keptA:List ByteArray:=[⟨#[111,112,116,105,111,110,97,108]⟩,⟨#[114,101,112,101,97,116,101,100]⟩,⟨#[114,101,115,101,114,118,101,100]⟩]
theorem kept_any (s:ByteArray):anyN (fun j=>eqS (keptA.getD j ⟨#[]⟩) s) 3=keptB s:=by
 have hc:∀ a b:List UInt8,(a == b)=(b == a):=fun a b=>by rw [Bool.eq_iff_iff,beq_iff_eq,beq_iff_eq];exact ⟨fun h=>h.symm,fun h=>h.symm⟩
 have he:∀ l:Array UInt8,(ByteArray.mk l).toList=l.toList:=fun l=>by rw [ByteArray.toList_eq]
 simp only [anyN,eqS,keptA,keptB,List.getD_cons_zero,List.getD_cons_succ,Bool.false_or,he,Bool.or_assoc]
 generalize s.1.toList=x
 simp only [hc _ x]
theorem msg_all {M:Nat→PM} {n k:Nat} {m:PM} (h:M k=m) :
  msgBad M n k=(!named m.name || (scalarB m.name || (keptB m.name || (!decide (placeM M n m.name=(k:Int)) || !rightB M n m)))):=by
 unfold msgBad headBad rightB
 rw [h]
 generalize named m.name=a1
 generalize scalarB m.name=a2
 generalize keptB m.name=a3
 generalize decide (placeM M n m.name=(k:Int))=a4
 generalize decide (50 < m.nF)=a5
 generalize decide (100 < m.nN)=a6
 generalize decide (100 < m.nS)=a7
 generalize anyN (fun j=>numBad (m.N j)) m.nN=a8
 generalize anyN (fun j => !named (m.S j)) m.nS=a9
 generalize fieldsB M n m=b1
 cases a1 <;> cases a2 <;> cases a3 <;> cases a4 <;> cases a5 <;> cases a6 <;> cases a7 <;> cases a8 <;> cases a9 <;> cases b1 <;> rfl
/-- **Check** of the program -/
theorem PCheck_any (a:Option Addr) (n c:Nat) (M:Nat→PM) (w:World) (h:PL w a n c M) :
  Calls Tryd.prog 19 #[.slice a n c] w fun e w'=>e=.returned (.int .i64 (checkI M n))∧Below w.heap.size w w':=by
 have H:=Lib.hid h
 have q1:=h.l
 have q2:=h.lc
 simp only [maxLen] at q2
 clear h
 go_enter Tryd.func19,Tryd.ntmps19
 by_cases h1:(n:Int) < 1
 ·repeat any_goals (first|go_skip|go_guarded|go_step|go_upon|(simp only [];done))
  exact bodyPost_ret (v:=.int .i64 7) z0x rfl ⟨by rw [check_few (.inl z0b)],zb2⟩
 by_cases h2:(50:Int) < (n:Int)
 ·repeat any_goals (first|go_skip|go_guarded|go_step|go_upon|(simp only [];done))
  exact bodyPost_ret (v:=.int .i64 7) z0x rfl ⟨by rw [check_few (.inr z0b)],zb2⟩
 repeat any_goals (first|go_skip|go_guarded|go_step|go_upon|(simp only [];done))
 go_loopw [15] (fun i wr=>∃ k:Nat,k≤n∧i=.int .i64 k∧anyN (msgBad M n) k=false∧Below w.heap.size w wr) (fun i _=>n - (intOf i).toNat)
 case atStart=>exact ⟨0,Nat.zero_le _,rfl,rfl,Below.refl _ _⟩
 case round=>
  obtain ⟨k,hk,rfl,hA,hW⟩:=hrel
  have HA:=Lib.hid hA
  clear hA
  by_cases hkn:k < n
  ·obtain ⟨b,off,rfl,hbl,hm,hin⟩:=m_lit H.out hkn hW
   obtain ⟨m,hmk⟩:∃ m,M k=m:=⟨_,rfl⟩
   have HMA:=Lib.hid (msg_all (M:=M) (n:=n) hmk)
   rw [hmk] at hm hin
   have HIN:=Lib.hid hin
   obtain ⟨x1,hx1⟩:∃ x,named m.name=x:=⟨_,rfl⟩
   obtain ⟨x2,hx2⟩:∃ x,scalarB m.name=x:=⟨_,rfl⟩
   obtain ⟨z3,hz3⟩:∃ z,placeM M n m.name=z:=⟨_,rfl⟩
   obtain ⟨x4,hx4⟩:∃ x,keptB m.name=x:=⟨_,rfl⟩
   obtain ⟨f5,hf5⟩:∃ x,rightB M n m=x:=⟨_,rfl⟩
   have hma:=HMA.out
   rw [hx1,hx2,hz3,hx4,hf5] at hma
   have HMB:=Lib.hid hma
   have C1:=Lib.hid fun wx=>Named_any m.name hin.s wx
   have C2:=Lib.hid fun wx=>PScalar_any m.name wx
   have C3:=Lib.hid fun wx (hx:Below w.heap.size w wx)=>PPlace_any (some ⟨b,off,none⟩) n c M m.name wx (H.out.below hx)
   have C4:=Lib.hid fun (B:Nat) wx (hx:SIn wx (some ⟨B,0,none⟩) 3 3 (fun j=>keptA.getD j ⟨#[]⟩))=>(by
    have h:=PContS_any (some ⟨B,0,none⟩) 3 3 _ m.name wx hx
    rwa [kept_any,hx4] at h:Calls Tryd.prog 32 #[.slice (some ⟨B,0,none⟩) 3 3,.string m.name] wx fun e w'=>e=.returned (.bool x4)∧w'=wx)
   have C5:=Lib.hid fun wx (hx:Below w.heap.size w wx) (hy:Below wr.heap.size wr wx)=>right_any (some ⟨b,off,none⟩) n c M m wx (H.out.below hx) (HIN.out.below hy)
   rw [hx1] at C1
   rw [hx2] at C2
   rw [hz3] at C3
   rw [hf5] at C5
   unfold PM.agg at C5
   obtain ⟨_,_,_,_⟩:=hm.all
   have i1:(k:Int) < (n:Int):=by omega
   have i2:(0:Int)≤(k:Int):=by omega
   have i5:(k:Int).toNat=k:=rfl
   clear hm hin hx1 hx2 hz3 hf5 hx4 hmk hma
   go_upto_region 6 with fail
   have M1:=Lib.hid (mbx_new wr m 55)
   have hW1:Below w.heap.size w (wr.alloc (.cells #[.string m.name,.slice m.aF m.nF m.cF,.slice m.aN m.nN m.cN,.slice m.aS m.nS m.cS] 55)):=below_alloc hW _
   have hV1:Below wr.heap.size wr (wr.alloc (.cells #[.string m.name,.slice m.aF m.nF m.cF,.slice m.aN m.nN m.cN,.slice m.aS m.nS m.cS] 55)):=below_alloc (Below.refl _ _) _
   generalize wr.alloc (.cells #[.string m.name,.slice m.aF m.nF m.cF,.slice m.aN m.nN m.cN,.slice m.aS m.nS m.cS] 55)=w1 at *
   obtain ⟨B1,hB1⟩:∃ B,B=wr.heap.size:=⟨_,rfl⟩
   rw [← hB1] at M1 ⊢
   clear hB1
   obtain ⟨_,_,_,_⟩:=M1.out.all
   have L4:=Lib.hid (show SIn (w1.alloc (.cells #[.string { data:=#[111,112,116,105,111,110,97,108] },.string { data:=#[114,101,112,101,97,116,101,100] },.string { data:=#[114,101,115,101,114,118,101,100] }] 9)) (some ⟨w1.heap.size,0,none⟩) 3 3 (fun j=>keptA.getD j ⟨#[]⟩) from sin_lit w1 keptA 9 z0g z0g)
   have M2:=Lib.hid (M1.out.below (below_alloc (Below.refl w1.heap.size w1) (.cells #[.string { data:=#[111,112,116,105,111,110,97,108] },.string { data:=#[114,101,112,101,97,116,101,100] },.string { data:=#[114,101,115,101,114,118,101,100] }] 9)))
   have hW2:=below_alloc hW1 (.cells #[.string { data:=#[111,112,116,105,111,110,97,108] },.string { data:=#[114,101,112,101,97,116,101,100] },.string { data:=#[114,101,115,101,114,118,101,100] }] 9)
   have hV2:=below_alloc hV1 (.cells #[.string { data:=#[111,112,116,105,111,110,97,108] },.string { data:=#[114,101,112,101,97,116,101,100] },.string { data:=#[114,101,115,101,114,118,101,100] }] 9)
   obtain ⟨_,_,_,_⟩:=M2.out.all
   cases x1 with
   | true=>
    cases x2 with
    | true=>
     exact z12zk1
    | false=>
     cases x4 with
     | true=>
      exact z12zk1
     | false=>
      by_cases cp:z3=(k:Int)
      ·skip
       cases f5 with
       | true=>
        (try have cp1:(z3 == (k:Int))=true:=beq_iff_eq.2 cp)
        (try have cp2:(z3 == (k:Int))=false:=beq_false_of_ne cp)
        have hb:msgBad M n k=false:=by rw [HMB.out];simp [*]
        (try subst cp)
        repeat any_goals (first|(go_at_call 30;with_reducible refine (C1.out _).mono ?_;rintro e w3 ⟨rfl,rfl⟩)|(go_at_call 31;with_reducible refine (C2.out _).mono ?_;rintro e w3 ⟨rfl,rfl⟩)|(go_at_call 32;refine (C4.out _ _ L4.out).mono ?_;rintro e w4 ⟨rfl,rfl⟩)|(go_at_call 33;refine (C3.out _ hW2).mono ?_;rintro e w5 ⟨rfl,hb5⟩;have M5:=Lib.hid (M2.out.below hb5);obtain ⟨_,_,_,_⟩:=M5.out.all;have hW5:=below_trans hW2 hb5;have hV5:=below_trans hV2 hb5)|(go_at_call 34;with_reducible refine (C5.out _ hW5 hV5).mono ?_;rintro e w6 ⟨rfl,hb6⟩;have hW6:=below_trans hW5 hb6)|go_skip|go_guarded|go_step|go_upon|(dsimp only []))
        go_roundw
        case rel=>exact ⟨k+1,by omega,rfl,by show (anyN (msgBad M n) k || msgBad M n k)=false;rw [HA.out,hb];rfl,hW6⟩
        case measure=>simp [intOf];omega
       | false=>
        exact z12zk1
      ·skip
       exact z12zk1
   | false=>
    exact z12zk1
  ·obtain rfl:k=n:=by omega
   have i1:¬ (k:Int) < (k:Int):=by omega
   repeat any_goals (first|go_skip|go_guarded|go_step|go_upon|(simp only [];done))
   exact bodyPost_ret (v:=.int .i64 0) z0x rfl ⟨by rw [check_good z0b z0b HA.out],hW⟩
def VT.long:VT→Bool
 | .nil=>false
 | .mk _ _ _ _ text _ nL _ kids _ nK _ keys=>if 1000 < nL∨1000 < nK∨4096 < text.size then true else if anyN (fun i=>decide (4096 < (keys i).size)) nK=true then true else anyN (fun i=>(kids i).long) nL
theorem long1_any (s:ByteArray) (w:World) (hs:s.size≤maxLen):Calls Tryd.prog 56 #[.string s] w fun e w'=>e=.returned (.bool (decide (4096 < s.size)))∧Below w.heap.size w w':=by
 simp only [maxLen] at hs
 by_cases c:4096 < s.size
 ·have ci:(4096:Int) < (s.size:Int):=by omega
  rw [decide_eq_true c]
  go_enter Tryd.func56,Tryd.ntmps56
  repeat any_goals (first|go_skip|go_guarded|go_step|go_upon|(simp only [];done))
  exact bodyPost_ret (v:=.bool true) (by simp [results,Tryd.results56,go_sem]) rfl ⟨rfl,zb2⟩
 ·have ci:¬ (4096:Int) < (s.size:Int):=by omega
  rw [decide_eq_false c]
  go_enter Tryd.func56,Tryd.ntmps56
  repeat any_goals (first|go_skip|go_guarded|go_step|go_upon|(simp only [];done))
  exact bodyPost_ret (v:=.bool false) (by simp [results,Tryd.results56,go_sem]) rfl ⟨rfl,zb2⟩
theorem eg_long1 (args:Array Value) (W:World):(callFunc 56 args).run Tryd.prog W=.ok (.enter 56 args) W:=enters_of Tryd.func56 z0a rfl args W
theorem eg_long (args:Array Value) (W:World):(callFunc 37 args).run Tryd.prog W=.ok (.enter 37 args) W:=enters_of Tryd.func37 z0a rfl args W
theorem Long_any:∀ (T:VT) (w:World),T.In w→Calls Tryd.prog 37 #[T.agg] w fun e w'=>e=.returned (.bool T.long)∧Below w.heap.size w w':=by
 intro T
 induction T with
 | nil=>exact fun w h=>h.elim
 | mk kind neg V bits text aL nL cL kids aK nK cK keys ih=>
  intro w hin
  obtain ⟨o,hL,hk,hKy⟩:=hin
  simp only [VT.agg,VT.cells,VT.long]
  obtain ⟨R,hR⟩:∃ R,R=(if 1000 < nL∨1000 < nK∨4096 < text.size then true else if anyN (fun i=>decide (4096 < (keys i).size)) nK=true then true else anyN (fun i=>(kids i).long) nL):=⟨_,rfl⟩
  rw [← hR]
  have HL:=Lib.hid hL
  have HK:=Lib.hid hk
  have HKy:=Lib.hid hKy
  have HR:=Lib.hid hR
  have IH:=Lib.hid ih
  have hcL:=o.lc
  have hlL:=o.l
  have hcK:=o.nc
  have hlK:=o.n
  have ht:=o.t
  clear hL hk hR ih hKy
  simp only [maxLen] at hcL hcK ht
  by_cases c1:1000 < nL
  ·have e:=HR.out
   rw [if_pos (.inl c1)] at e
   subst e
   have c1i:(1000:Int) < (nL:Int):=by omega
   exact z12zk2
  have c1i:¬ (1000:Int) < (nL:Int):=by omega
  by_cases c2:1000 < nK
  ·have e:=HR.out
   rw [if_pos (.inr (.inl c2))] at e
   subst e
   have c2i:(1000:Int) < (nK:Int):=by omega
   exact z12zk2
  have c2i:¬ (1000:Int) < (nK:Int):=by omega
  by_cases c3:4096 < text.size
  ·have e:=HR.out
   rw [if_pos (.inr (.inr c3))] at e
   subst e
   have c3i:(4096:Int) < (text.size:Int):=by omega
   exact z12zk2
  have c3i:¬ (4096:Int) < (text.size:Int):=by omega
  have e:=HR.out
  rw [if_neg z0b] at e
  clear c1 c2 c3
  obtain ⟨x,hx⟩:∃ x,x=anyN (fun i=>decide (4096 < (keys i).size)) nK:=⟨_,rfl⟩
  obtain ⟨y,hy⟩:∃ x,x=anyN (fun i=>(kids i).long) nL:=⟨_,rfl⟩
  have hC1:∀ wr:World,Below w.heap.size w wr→Calls Tryd.prog 51 #[.slice aK nK cK,.func (.func 56) #[] #[]] wr fun e w'=>e=.returned (.bool x)∧Below wr.heap.size wr w':=fun wr hb=>by
   rw [hx]
   refine ContK_any _ eg_long1 _ aK nK cK keys wr (by simp only [maxLen];exact hcK) hlK ?_ fun i hi w' hb'=>long1_any _ _ ?_
   ·rcases HKy.out with h|⟨b,off,h1,h2,h3⟩
    ·exact .inl h
    ·exact .inr ⟨b,off,h1,Nat.lt_of_lt_of_le h2 hb.size,fun i hi=>⟨by rw [hb.cell (p:=⟨b,off+i,none⟩) h2];exact (h3 i hi).1,(h3 i hi).2⟩⟩
   ·rcases HKy.out with h|⟨b,off,h1,h2,h3⟩
    ·omega
    ·exact (h3 i hi).2
  have hC2:∀ wr:World,Below w.heap.size w wr→Calls Tryd.prog 57 #[.slice aL nL cL,.func (.func 37) #[] #[]] wr fun e w'=>e=.returned (.bool y)∧Below wr.heap.size wr w':=fun wr hb=>by
   rw [hy]
   refine ContV_any _ eg_long _ aL nL cL kids wr (by simp only [maxLen];exact hcL) hlL ?_ (fun i hi=>(HK.out i hi).below hb) fun i hi w' hb'=>IH.out i w' (((HK.out i hi).below hb).below hb')
   rcases HL.out with h|⟨b,off,h1,h2,h3⟩
   ·exact .inl h
   ·exact .inr ⟨b,off,h1,Nat.lt_of_lt_of_le h2 hb.size,fun i hi j hj=>by rw [hb.cell (p:=⟨b,off+i * 10+j,none⟩) h2];exact h3 i hi j hj⟩
  rw [← hx,← hy] at e
  clear hx hy HL HK HKy HR IH
  have C1:=Lib.hid hC1
  have C2:=Lib.hid hC2
  clear hC1 hC2
  cases x with
  | true=>
   rw [if_pos rfl] at e
   subst e
   go_enter Tryd.func37,Tryd.ntmps37
   repeat any_goals (first|(go_at_call 51;refine (C1.out _ zb2).mono ?_;rintro e w1 ⟨rfl,hb1⟩)|go_skip|go_guarded|go_step|go_upon|(dsimp only []))
   exact bodyPost_ret (v:=.bool true) (by simp [results,Tryd.results37,go_sem]) rfl ⟨rfl,zb2⟩
  | false=>
   rw [if_neg Bool.false_ne_true] at e
   subst e
   go_enter Tryd.func37,Tryd.ntmps37
   repeat any_goals (first|(go_at_call 51;refine (C1.out _ zb2).mono ?_;rintro e w1 ⟨rfl,hb1⟩;have h8:=keep_cell (p:=⟨w.heap.size,8,none⟩) (v:=.slice aL nL cL) hb1 (by simp [go_sem]))|(go_at_call 57;refine (C2.out _ zb2).mono ?_;rintro e w2 ⟨rfl,hb2⟩)|go_skip|go_guarded|go_step|go_upon|(dsimp only []))
   exact bodyPost_ret (v:=.bool R) (by simp [results,Tryd.results37,go_sem]) rfl ⟨rfl,zb2⟩
theorem Depth_any:∀ (T:VT) (w:World),T.In w→T.nodes < 4611686018427387904 →
  Calls Tryd.prog 35 #[T.agg] w fun e w'=>e=.returned (.int .i64 (T.depth:Nat))∧Below w.heap.size w w':=by
 intro T
 induction T with
 | nil=>exact fun w h=>h.elim
 | mk kind neg V bits text aL nL cL kids aK nK cK keys ih=>
  intro w hin hN
  obtain ⟨o,hL,hk,-⟩:=hin
  simp only [VT.agg,VT.cells]
  obtain ⟨D,hD⟩:∃ D:Nat→Nat,D=fun n=>maxN (fun i=>(kids i).depth) n:=⟨_,rfl⟩
  have hDB:D nL < 4611686018427387904:=by
   rw [hD]
   exact Nat.lt_of_le_of_lt (maxN_sumN (fun i=>VT.depth_nodes (kids i)) nL) (VT.nodes_sum hN (Nat.le_refl _))
  have HL:=Lib.hid hL
  have HK:=Lib.hid hk
  have HD:=Lib.hid hD
  have HB:=Lib.hid hDB
  have IH:=Lib.hid ih
  have hcL:=o.lc
  have hlL:=o.l
  clear hL hk hD hDB ih
  simp only [maxLen] at hcL
  go_enter Tryd.func35,Tryd.ntmps35
  repeat any_goals (first|go_skip|go_guarded|go_step|go_upon|(simp only [];done))
  go_loopw [3,9] (fun n i wr=>∃ k:Nat,k≤nL∧i=.int .i64 k∧n=.int .i64 (D k:Nat)∧wr.cell? ⟨w.heap.size,8,none⟩=some (.slice aL nL cL)∧Below w.heap.size w wr) (fun _ i _=>nL - (intOf i).toNat)
  case atStart=>
   refine ⟨0,Nat.zero_le _,rfl,by rw [HD.out];rfl,by simp [go_sem],zb2⟩
  case round=>
   obtain ⟨k,hk,rfl,rfl,h8,hW⟩:=hrel
   by_cases hkn:k < nL
   ·obtain ⟨b,off,kind',neg',V',bits',text',aL',nL',cL',kids',aK',nK',cK',keys',rfl,hb,hkid,⟨c0,c1,c2,c3,c4,c5,c6,c7,c8,c9⟩,hin'⟩:=kid_lit HL.out HK.out hkn hW
    have i1:(k:Int) < (nL:Int):=by omega
    have i2:(0:Int)≤(k:Int):=by omega
    have i5:(k:Int).toNat=k:=rfl
    obtain ⟨x,hx⟩:∃ x:Nat,x=(kids k).depth:=⟨_,rfl⟩
    have HC:∀ w'':World,Below wr.heap.size wr w''→Calls Tryd.prog 35 #[(kids k).agg] w'' fun e w'=>e=.returned (.int .i64 (x:Nat))∧Below w''.heap.size w'' w':=fun w'' hb=>by
     have:=IH.out k w'' (hin'.below hb) (VT.nodes_kid hN hkn)
     rwa [← hx] at this
    rw [hkid] at HC
    simp only [VT.agg,VT.cells] at HC
    have HC:=Lib.hid HC
    have HX:=Lib.hid hx
    clear hin' hkid hx
    repeat any_goals (first|(go_at_call 35;refine (HC.out _ zb2).mono ?_;rintro e w1 ⟨rfl,hb1⟩)|go_skip|go_guarded|go_step|go_upon|(dsimp only []))
    go_roundw
    case rel=>
     refine ⟨k+1,by omega,rfl,?_,keep_cell hb1 (keep_cell (w1:=wr) zb2 h8),zb2⟩
     rw [HD.out]
     simp only [maxN]
     rw [← HX.out]
     congr 1
     omega
    case measure=>simp [intOf];omega
   ·have hk':k=nL:=by omega
    subst hk'
    have i1:¬ (k:Int) < (k:Int):=by omega
    have i2:=HB.out
    repeat any_goals (first|go_skip|go_guarded|go_step|go_upon|(simp only [];done))
    exact bodyPost_ret (v:=.int .i64 (D k+1:Nat)) (by simp [results,Tryd.results35,go_sem]) rfl ⟨by simp only [VT.depth];rw [HD.out],zb2⟩
theorem Nodes_any:∀ (T:VT) (w:World),T.In w→T.nodes < 4611686018427387904 →
  Calls Tryd.prog 36 #[T.agg] w fun e w'=>e=.returned (.int .i64 (T.nodes:Nat))∧Below w.heap.size w w':=by
 intro T
 induction T with
 | nil=>exact fun w h=>h.elim
 | mk kind neg V bits text aL nL cL kids aK nK cK keys ih=>
  intro w hin hN
  obtain ⟨o,hL,hk,-⟩:=hin
  simp only [VT.agg,VT.cells]
  obtain ⟨D,hD⟩:∃ D:Nat→Nat,D=fun n=>1+sumN (fun i=>(kids i).nodes) n:=⟨_,rfl⟩
  have hDB:∀ k,k≤nL→D k < 4611686018427387905:=fun k hk=>by
   rw [hD]
   have:=VT.nodes_sum hN hk
   show 1+sumN (fun i=>(kids i).nodes) k < _
   omega
  have HL:=Lib.hid hL
  have HK:=Lib.hid hk
  have HD:=Lib.hid hD
  have HB:=Lib.hid hDB
  have IH:=Lib.hid ih
  have hcL:=o.lc
  have hlL:=o.l
  clear hL hk hD hDB ih
  simp only [maxLen] at hcL
  go_enter Tryd.func36,Tryd.ntmps36
  repeat any_goals (first|go_skip|go_guarded|go_step|go_upon|(simp only [];done))
  go_loopw [3,9] (fun n i wr=>∃ k:Nat,k≤nL∧i=.int .i64 k∧n=.int .i64 (D k:Nat)∧wr.cell? ⟨w.heap.size,8,none⟩=some (.slice aL nL cL)∧Below w.heap.size w wr) (fun _ i _=>nL - (intOf i).toNat)
  case atStart=>
   refine ⟨0,Nat.zero_le _,rfl,by rw [HD.out];rfl,by simp [go_sem],zb2⟩
  case round=>
   obtain ⟨k,hk,rfl,rfl,h8,hW⟩:=hrel
   by_cases hkn:k < nL
   ·obtain ⟨b,off,kind',neg',V',bits',text',aL',nL',cL',kids',aK',nK',cK',keys',rfl,hb,hkid,⟨c0,c1,c2,c3,c4,c5,c6,c7,c8,c9⟩,hin'⟩:=kid_lit HL.out HK.out hkn hW
    have i1:(k:Int) < (nL:Int):=by omega
    have i2:(0:Int)≤(k:Int):=by omega
    have i5:(k:Int).toNat=k:=rfl
    obtain ⟨x,hx⟩:∃ x:Nat,x=(kids k).nodes:=⟨_,rfl⟩
    have hxB:x < 4611686018427387904:=hx ▸ VT.nodes_kid hN hkn
    have hkB:=HB.out k z0b
    have HC:∀ w'':World,Below wr.heap.size wr w''→Calls Tryd.prog 36 #[(kids k).agg] w'' fun e w'=>e=.returned (.int .i64 (x:Nat))∧Below w''.heap.size w'' w':=fun w'' hb=>by
     have:=IH.out k w'' (hin'.below hb) (VT.nodes_kid hN hkn)
     rwa [← hx] at this
    rw [hkid] at HC
    simp only [VT.agg,VT.cells] at HC
    have HC:=Lib.hid HC
    have HX:=Lib.hid hx
    clear hin' hkid hx
    repeat any_goals (first|(go_at_call 36;refine (HC.out _ zb2).mono ?_;rintro e w1 ⟨rfl,hb1⟩)|go_skip|go_guarded|go_step|go_upon|(dsimp only []))
    go_roundw
    case rel=>
     refine ⟨k+1,by omega,rfl,?_,keep_cell hb1 (keep_cell (w1:=wr) zb2 h8),zb2⟩
     rw [HD.out]
     simp only [sumN]
     rw [← HX.out]
     congr 1
     omega
    case measure=>simp [intOf];omega
   ·have hk':k=nL:=by omega
    subst hk'
    have i1:¬ (k:Int) < (k:Int):=by omega
    have i2:=HB.out k (Nat.le_refl _)
    repeat any_goals (first|go_skip|go_guarded|go_step|go_upon|(simp only [];done))
    exact bodyPost_ret (v:=.int .i64 (D k:Nat)) (by simp [results,Tryd.results36,go_sem]) rfl ⟨by simp only [VT.nodes];rw [HD.out];exact congrArg (fun z:Nat=>Ending.returned (.int .i64 (z:Int))) (Nat.add_comm 1 (sumN (fun i=>(kids i).nodes) k)),zb2⟩
end Go.Proofs.YtfondldmmcmloaaDoor
