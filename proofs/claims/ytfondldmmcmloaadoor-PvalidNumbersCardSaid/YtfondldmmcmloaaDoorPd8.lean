/- PB, LexC. -/
import Derived.StillTail
import Derived.Test.YtfondldmmcmloaaDoorPd7
set_option maxRecDepth 1000000
set_option maxHeartbeats 8000000
namespace Go.Proofs.YtfondldmmcmloaaDoor
open Go Go.RowKit
theorem z8zk1 {p:Prop} (h:p:=by
 repeat any_goals (first|go_skip|go_guarded|go_step|go_upon|(simp only [];done))
 exact bodyPost_ret (v:=.bool false) z0t rfl ⟨by unfold named;rw [anyN_of hb hkn];rfl,rfl⟩):p:=h
theorem z8zk2 {p:Prop} (h:p:=by
 repeat any_goals (first|go_skip|go_guarded|go_step|go_upon|(simp only [];done))
 go_round
 case rel=>exact ⟨k+1,by omega,rfl,fstN_on H1.out HX.out⟩
 case measure=>simp [intOf];omega):p:=h
theorem z8zk3 {p:Prop} (h:p:=by
 have hb:badN s k=false:=by rw [hbad];simp [letterN,digitN];omega
 repeat any_goals (first|go_skip|go_guarded|go_step|go_upon|(simp only [];done))
 go_round
 case rel=>exact ⟨k+1,by omega,rfl,by show (anyN (badN s) k || badN s k)=false;rw [H1.out,hb];rfl⟩
 case measure=>simp [intOf];omega):p:=h
theorem z8zk4 {p:Prop} (h:p:=by
 repeat any_goals (first|(with_reducible refine calls_at f (HC.out _ zb2) ?_;rintro e w1 ⟨rfl,hb1⟩)|go_skip|go_guarded|go_step|go_upon|(dsimp only []))
 go_roundw
 case rel=>exact ⟨k+1,by omega,rfl,fstN_on H1.out HX.out,zb2⟩
 case measure=>simp [intOf];omega):p:=h
end Go.Proofs.YtfondldmmcmloaaDoor
namespace Go.Proofs.YtfondldmmcmloaaDoor
open Go.RowKit
/-- **Name** of the document -/
theorem RName_any (s:ByteArray) (hs:s.size≤maxLen) (w:World):Calls Tryd.prog 23 #[.string s] w fun e w'=>e=.returned (.bool (named s))∧w'=w:=by
 simp only [maxLen] at hs
 go_enter Tryd.func23,Tryd.ntmps23
 repeat any_goals (first|go_skip|go_guarded|go_step|go_upon|(simp only [];done))
 go_loop [3] (fun i=>∃ k:Nat,k≤s.size∧i=.int .i64 k∧anyN (badN s) k=false) (fun i=>s.size - (intOf i).toNat)
 case atStart=>exact ⟨0,Nat.zero_le _,rfl,rfl⟩
 case round=>
  obtain ⟨k,hk,rfl,hr⟩:=hrel
  have H1:=Lib.hid hr
  clear hr
  by_cases hkn:k < s.size
  ·have i1:(k:Int) < (s.size:Int):=by omega
   have i2:(0:Int)≤(k:Int):=by omega
   have i5:(k:Int).toNat=k:=rfl
   obtain ⟨c,hc⟩:∃ c,(s[k]'hkn).toNat=c:=⟨_,rfl⟩
   have hbad:badN s k=(!letterN c && (decide (k=0) || !digitN c && !decide (c=95))):=by unfold badN;rw [byteN_at s k hkn,hc]
   by_cases ha:(97:Int)≤(c:Int)
   ·skip
    by_cases hb:(c:Int)≤122
    ·skip
     exact z8zk3
    ·skip
     have hC:(65:Int)≤(c:Int):=by omega
     have hD:¬ (c:Int)≤90:=by omega
     by_cases hz:k=0
     ·subst hz
      have hb:badN s 0=true:=by rw [hbad];simp [letterN,digitN];omega
      exact z8zk1
     ·have hz1:((k:Int) == 0)=false:=beq_false_of_ne z0b
      have he:(48:Int)≤(c:Int):=by omega
      have hf:¬ (c:Int)≤57:=by omega
      have hg1:((c:Int) == 95)=false:=beq_false_of_ne z0b
      have hg2:¬ (c:Int)=95:=by omega
      have hb:badN s k=true:=by rw [hbad];simp [letterN,digitN];omega
      exact z8zk1
   ·skip
    by_cases hC:(65:Int)≤(c:Int)
    ·skip
     by_cases hD:(c:Int)≤90
     ·skip
      exact z8zk3
     ·skip
      by_cases hz:k=0
      ·subst hz
       have hb:badN s 0=true:=by rw [hbad];simp [letterN,digitN];omega
       exact z8zk1
      ·have hz1:((k:Int) == 0)=false:=beq_false_of_ne z0b
       have he:(48:Int)≤(c:Int):=by omega
       have hf:¬ (c:Int)≤57:=by omega
       by_cases hg:c=95
       ·skip
        subst hg
        exact z8zk3
       ·skip
        have hg1:((c:Int) == 95)=false:=beq_false_of_ne z0b
        have hg2:¬ (c:Int)=95:=by omega
        have hb:badN s k=true:=by rw [hbad];simp [letterN,digitN];omega
        exact z8zk1
    ·skip
     by_cases hz:k=0
     ·subst hz
      have hb:badN s 0=true:=by rw [hbad];simp [letterN,digitN];omega
      exact z8zk1
     ·have hz1:((k:Int) == 0)=false:=beq_false_of_ne z0b
      have hg1:((c:Int) == 95)=false:=beq_false_of_ne z0b
      have hg2:¬ (c:Int)=95:=by omega
      by_cases he:(48:Int)≤(c:Int)
      ·skip
       by_cases hf:(c:Int)≤57
       ·skip
        exact z8zk3
       ·skip
        have hb:badN s k=true:=by rw [hbad];simp [letterN,digitN];omega
        exact z8zk1
      ·skip
       have hb:badN s k=true:=by rw [hbad];simp [letterN,digitN];omega
       exact z8zk1
  ·have hk':k=s.size:=by omega
   have i1:¬ (k:Int) < (s.size:Int):=by omega
   by_cases h0:s.size=0
   ·have e:s=⟨#[]⟩:=by
     apply ByteArray.ext
     exact Array.eq_empty_of_size_eq_zero h0
    subst e
    repeat any_goals (first|go_skip|go_guarded|go_step|go_upon|(simp only [];done))
    exact bodyPost_ret (v:=.bool false) z0t rfl ⟨rfl,rfl⟩
   ·have h2:s.toList.isEmpty=false:=by
     rw [ByteArray.toList_eq,List.isEmpty_eq_false_iff]
     intro h
     have:=congrArg List.length h
     rw [Array.length_toList] at this
     exact h0 this
    repeat any_goals (first|go_skip|go_guarded|go_step|go_upon|(simp only [];done))
    exact bodyPost_ret (v:=.bool true) z0t rfl ⟨by unfold named;rw [← hk',H1.out,hk',decide_eq_true h0];rfl,rfl⟩
theorem s_lit {w wr:World} {a:Option Addr} {n c i:Nat} {S:Nat→ByteArray} (h:SIn w a n c S) (hi:i < n) (hB:Below w.heap.size w wr) :
  ∃ b off:Nat,a=some ⟨b,off,none⟩∧b < w.heap.size∧wr.cell? ⟨b,off+i,none⟩=some (.string (S i))∧(S i).size≤maxLen:=by
 rcases h.c with h0|⟨b,off,rfl,hb,hc⟩
 ·omega
 ·exact ⟨b,off,rfl,hb,by rw [hB.cell (p:=⟨b,off+i,none⟩) hb];exact (hc i hi).1,(hc i hi).2⟩
theorem n_lit {w wr:World} {a:Option Addr} {n c i:Nat} {N:Nat→Int} (h:NIn w a n c N) (hi:i < n) (hB:Below w.heap.size w wr) :
  ∃ b off:Nat,a=some ⟨b,off,none⟩∧b < w.heap.size∧wr.cell? ⟨b,off+i,none⟩=some (.int .i64 (N i)) ∧ -9223372036854775808≤N i∧N i < 9223372036854775808:=by
 rcases h.c with h0|⟨b,off,rfl,hb,hc⟩
 ·omega
 ·exact ⟨b,off,rfl,hb,by rw [hB.cell (p:=⟨b,off+i,none⟩) hb];exact (hc i hi).1,(hc i hi).2⟩
structure F6 (w:World) (b o:Nat) (f:PF):Prop where
 all:w.cell? ⟨b,o,none⟩=some (.string f.name)∧w.cell? ⟨b,o+1,none⟩=some (.string f.type)∧w.cell? ⟨b,o+2,none⟩=some (.int .i64 f.number)∧w.cell? ⟨b,o+3,none⟩=some (.bool f.opt)∧w.cell? ⟨b,o+4,none⟩=some (.bool f.rep)∧w.cell? ⟨b,o+5,none⟩=some (.bool f.map)
theorem F6.below {w w1:World} {b o:Nat} {f:PF} (h:F6 w b o f) (hb:Below w.heap.size w w1):F6 w1 b o f:=by
 obtain ⟨h0,h1,h2,h3,h4,h5⟩:=h.all
 exact ⟨keep_cell hb h0,keep_cell hb h1,keep_cell hb h2,keep_cell hb h3,keep_cell hb h4,keep_cell hb h5⟩
theorem f_lit {w wr:World} {a:Option Addr} {n c i:Nat} {F:Nat→PF} (h:FIn w a n c F) (hi:i < n) (hB:Below w.heap.size w wr) :
  ∃ b off:Nat,a=some ⟨b,off,none⟩∧b < w.heap.size∧F6 wr b (off+i * 6) (F i)∧(F i).Ok:=by
 rcases h.c with h0|⟨b,off,rfl,hb,hc⟩
 ·omega
 ·have hw:∀ j,j < 6→wr.cell? ⟨b,off+i * 6+j,none⟩=(F i).cells[j]? := fun j hj=>by
   rw [hB.cell (p:=⟨b,off+i * 6+j,none⟩) hb]
   exact hc i hi j hj
  exact ⟨b,off,rfl,hb,⟨hw 0 z0b,hw 1 z0b,hw 2 z0b,hw 3 z0b,hw 4 z0b,hw 5 z0b⟩,h.o i hi⟩
structure M4 (w:World) (b o:Nat) (m:PM):Prop where
 all:w.cell? ⟨b,o,none⟩=some (.string m.name)∧w.cell? ⟨b,o+1,none⟩=some (.slice m.aF m.nF m.cF)∧w.cell? ⟨b,o+2,none⟩=some (.slice m.aN m.nN m.cN)∧w.cell? ⟨b,o+3,none⟩=some (.slice m.aS m.nS m.cS)
theorem M4.below {w w1:World} {b o:Nat} {m:PM} (h:M4 w b o m) (hb:Below w.heap.size w w1):M4 w1 b o m:=by
 obtain ⟨h0,h1,h2,h3⟩:=h.all
 exact ⟨keep_cell hb h0,keep_cell hb h1,keep_cell hb h2,keep_cell hb h3⟩
theorem m_lit {w wr:World} {a:Option Addr} {n c i:Nat} {M:Nat→PM} (h:PL w a n c M) (hi:i < n) (hB:Below w.heap.size w wr) :
  ∃ b off:Nat,a=some ⟨b,off,none⟩∧b < w.heap.size∧M4 wr b (off+i * 4) (M i)∧(M i).In wr:=by
 rcases h.c with h0|⟨b,off,rfl,hb,hc⟩
 ·omega
 ·have hw:∀ j,j < 4→wr.cell? ⟨b,off+i * 4+j,none⟩=(M i).cells[j]? := fun j hj=>by
   rw [hB.cell (p:=⟨b,off+i * 4+j,none⟩) hb]
   exact hc i hi j hj
  exact ⟨b,off,rfl,hb,⟨hw 0 z0b,hw 1 z0b,hw 2 z0b,hw 3 z0b⟩,(h.k i hi).below hB⟩
theorem fstN_hit {p:Nat→Bool} {k n:Nat} (h:fstN p k = -1) (hp:p k=true) (hk:k < n):fstN p n=k:=by
 have h1:fstN p (k+1)=k:=by simp only [fstN];rw [h,hp];simp
 rw [fstN_keep (k:=k+1) (by rw [h1];omega) z0b,h1]
theorem fstN_on {p:Nat→Bool} {k:Nat} (h:fstN p k = -1) (hp:p k=false):fstN p (k+1) = -1:=by
 simp only [fstN]
 rw [h,hp]
 simp
def eqS (a b:ByteArray):Bool:=a.toList == b.toList
theorem eqS_iff {a b:ByteArray}:eqS a b=true↔a=b:=by
 unfold eqS
 rw [beq_iff_eq]
 exact ⟨toList_inj,fun h=>by rw [h]⟩
def placeS (S:Nat→ByteArray) (n:Nat) (s:ByteArray):Int:=fstN (fun i=>eqS (S i) s) n
def placeM (M:Nat→PM) (n:Nat) (s:ByteArray):Int:=fstN (fun i=>eqS (M i).name s) n
def placeF (m:PM) (s:ByteArray):Int:=fstN (fun i=>eqS (m.F i).name s) m.nF
theorem RPlaceS_any (a:Option Addr) (n c:Nat) (S:Nat→ByteArray) (s:ByteArray) (w:World) (h:SIn w a n c S) :
  Calls Tryd.prog 24 #[.slice a n c,.string s] w fun e w'=>e=.returned (.int .i64 (placeS S n s))∧w'=w:=by
 have H:=Lib.hid h
 have q1:=h.l
 have q2:=h.lc
 clear h
 simp only [maxLen] at q2
 go_enter Tryd.func24,Tryd.ntmps24
 repeat any_goals (first|go_skip|go_guarded|go_step|go_upon|(simp only [];done))
 go_loop [5] (fun i=>∃ k:Nat,k≤n∧i=.int .i64 k∧fstN (fun i=>eqS (S i) s) k = -1) (fun i=>n - (intOf i).toNat)
 case atStart=>exact ⟨0,Nat.zero_le _,rfl,rfl⟩
 case round=>
  obtain ⟨k,hk,rfl,hr⟩:=hrel
  have H1:=Lib.hid hr
  clear hr
  by_cases hkn:k < n
  ·have i1:(k:Int) < (n:Int):=by omega
   have i2:(0:Int)≤(k:Int):=by omega
   have i5:(k:Int).toNat=k:=rfl
   obtain ⟨b,off,rfl,hb,hc,-⟩:=s_lit H.out hkn (Below.refl _ _)
   obtain ⟨x,hx⟩:∃ x,((S k).toList == s.toList)=x:=⟨_,rfl⟩
   have HX:=Lib.hid (show (fun i=>eqS (S i) s) k=x from hx)
   cases x with
   | true=>
    have e:fstN (fun i=>eqS (S i) s) n=k:=fstN_hit H1.out HX.out hkn
    repeat any_goals (first|go_skip|go_guarded|go_step|go_upon|(simp only [];done))
    exact bodyPost_ret (v:=.int .i64 (k:Nat)) (by simp [results,Tryd.results24,go_sem]) rfl ⟨by unfold placeS;rw [e],rfl⟩
   | false=>
    exact z8zk2
  ·obtain rfl:k=n:=by omega
   have i1:¬ (k:Int) < (k:Int):=by omega
   repeat any_goals (first|go_skip|go_guarded|go_step|go_upon|(simp only [];done))
   exact bodyPost_ret (v:=.int .i64 (-1)) (by simp [results,Tryd.results24,go_sem]) rfl ⟨by unfold placeS;rw [H1.out],rfl⟩
theorem RPlace_any (a:Option Addr) (n c:Nat) (M:Nat→PM) (s:ByteArray) (w:World) (h:PL w a n c M) :
  Calls Tryd.prog 28 #[.slice a n c,.string s] w fun e w'=>e=.returned (.int .i64 (placeM M n s))∧w'=w:=by
 have H:=Lib.hid h
 have q1:=h.l
 have q2:=h.lc
 clear h
 simp only [maxLen] at q2
 go_enter Tryd.func28,Tryd.ntmps28
 repeat any_goals (first|go_skip|go_guarded|go_step|go_upon|(simp only [];done))
 go_loop [5] (fun i=>∃ k:Nat,k≤n∧i=.int .i64 k∧fstN (fun i=>eqS (M i).name s) k = -1) (fun i=>n - (intOf i).toNat)
 case atStart=>exact ⟨0,Nat.zero_le _,rfl,rfl⟩
 case round=>
  obtain ⟨k,hk,rfl,hr⟩:=hrel
  have H1:=Lib.hid hr
  clear hr
  by_cases hkn:k < n
  ·have i1:(k:Int) < (n:Int):=by omega
   have i2:(0:Int)≤(k:Int):=by omega
   have i5:(k:Int).toNat=k:=rfl
   obtain ⟨b,off,rfl,hb,⟨hc,-⟩,-⟩:=m_lit H.out hkn (Below.refl _ _)
   obtain ⟨x,hx⟩:∃ x,((M k).name.toList == s.toList)=x:=⟨_,rfl⟩
   have HX:=Lib.hid (show (fun i=>eqS (M i).name s) k=x from hx)
   cases x with
   | true=>
    have e:fstN (fun i=>eqS (M i).name s) n=k:=fstN_hit H1.out HX.out hkn
    repeat any_goals (first|go_skip|go_guarded|go_step|go_upon|(simp only [];done))
    exact bodyPost_ret (v:=.int .i64 (k:Nat)) (by simp [results,Tryd.results28,go_sem]) rfl ⟨by unfold placeM;rw [e],rfl⟩
   | false=>
    exact z8zk2
  ·obtain rfl:k=n:=by omega
   have i1:¬ (k:Int) < (k:Int):=by omega
   repeat any_goals (first|go_skip|go_guarded|go_step|go_upon|(simp only [];done))
   exact bodyPost_ret (v:=.int .i64 (-1)) (by simp [results,Tryd.results28,go_sem]) rfl ⟨by unfold placeM;rw [H1.out],rfl⟩
theorem RAmong_any (a:Option Addr) (n c:Nat) (N:Nat→Int) (z:Int) (w:World) (h:NIn w a n c N) :
  Calls Tryd.prog 43 #[.slice a n c,.int .i64 z] w fun e w'=>e=.returned (.bool (anyN (fun i=>N i == z) n))∧w'=w:=by
 have H:=Lib.hid h
 have q1:=h.l
 have q2:=h.lc
 clear h
 simp only [maxLen] at q2
 go_enter Tryd.func43,Tryd.ntmps43
 repeat any_goals (first|go_skip|go_guarded|go_step|go_upon|(simp only [];done))
 go_loop [5] (fun i=>∃ k:Nat,k≤n∧i=.int .i64 k∧fstN (fun i=>(N i == z)) k = -1) (fun i=>n - (intOf i).toNat)
 case atStart=>exact ⟨0,Nat.zero_le _,rfl,rfl⟩
 case round=>
  obtain ⟨k,hk,rfl,hr⟩:=hrel
  have H1:=Lib.hid hr
  clear hr
  by_cases hkn:k < n
  ·have i1:(k:Int) < (n:Int):=by omega
   have i2:(0:Int)≤(k:Int):=by omega
   have i5:(k:Int).toNat=k:=rfl
   obtain ⟨b,off,rfl,hb,hc,-⟩:=n_lit H.out hkn (Below.refl _ _)
   obtain ⟨x,hx⟩:∃ x,(N k == z)=x:=⟨_,rfl⟩
   have HX:=Lib.hid (show (fun i=>(N i == z)) k=x from hx)
   cases x with
   | true=>
    have e:fstN (fun i=>(N i == z)) n=k:=fstN_hit H1.out HX.out hkn
    repeat any_goals (first|go_skip|go_guarded|go_step|go_upon|(simp only [];done))
    exact bodyPost_ret (v:=.bool true) (by simp [results,Tryd.results43,go_sem]) rfl ⟨by rw [anyN_of (p:=fun i=>N i == z) HX.out hkn],rfl⟩
   | false=>
    exact z8zk2
  ·obtain rfl:k=n:=by omega
   have i1:¬ (k:Int) < (k:Int):=by omega
   repeat any_goals (first|go_skip|go_guarded|go_step|go_upon|(simp only [];done))
   exact bodyPost_ret (v:=.bool false) (by simp [results,Tryd.results43,go_sem]) rfl ⟨by rw [← fstN_any,H1.out];rfl,rfl⟩
theorem sin_lit (w:World) (l:List ByteArray) (t:TypeId) (hl:l.length≤maxLen) (hs:∀ x ∈ l,x.size≤maxLen):SIn (w.alloc (.cells (l.map Value.string).toArray t)) (some ⟨w.heap.size,0,none⟩) l.length l.length (fun i=>l.getD i ⟨#[]⟩):=by
 refine ⟨Nat.le_refl _,hl,.inr ⟨_,_,rfl,by simp,fun i hi=>?_⟩⟩
 have e:l[i]? = some l[i]:=List.getElem?_eq_getElem hi
 have e2:l.getD i ⟨#[]⟩=l[i]:=by rw [List.getD_eq_getElem?_getD,e];rfl
 rw [e2]
 refine ⟨?_,hs _ (List.getElem_mem hi)⟩
 rw [Nat.zero_add,World.cell?_alloc_new,List.getElem?_toArray,List.getElem?_map,e]
 rfl
def scalarA:List ByteArray:=scalarL.map fun l=>⟨l.toArray⟩
theorem scalar_place (s:ByteArray):decide (0≤placeS (fun i=>scalarA.getD i ⟨#[]⟩) 10 s)=scalarB s:=by
 unfold placeS
 rw [fstN_any]
 have hc:∀ a b:List UInt8,(a == b)=(b == a):=fun a b=>by rw [Bool.eq_iff_iff,beq_iff_eq,beq_iff_eq];exact ⟨fun h=>h.symm,fun h=>h.symm⟩
 have he:∀ l:List UInt8,(ByteArray.mk l.toArray).toList=l:=fun l=>by simp [ByteArray.toList_eq]
 simp only [anyN,eqS,scalarA,scalarL,scalarB,List.map_cons,List.map_nil,List.getD_cons_zero,List.getD_cons_succ,List.any_cons,List.any_nil,Bool.false_or,Bool.or_false,he,Bool.or_assoc]
 generalize s.1.toList=x
 simp only [hc _ x]
/-- **Scalar** of the document -/
theorem RScalar_any (s:ByteArray) (w:World):Calls Tryd.prog 27 #[.string s] w fun e w'=>e=.returned (.bool (scalarB s))∧Below w.heap.size w w':=by
 obtain ⟨z,hz⟩:∃ z,z=placeS (fun i=>scalarA.getD i ⟨#[]⟩) 10 s:=⟨_,rfl⟩
 have HZ:=Lib.hid (show decide (0≤z)=scalarB s by rw [hz];exact scalar_place s)
 have C1:=Lib.hid fun wx (hx:SIn wx (some ⟨w.heap.size,0,none⟩) 10 10 (fun i=>scalarA.getD i ⟨#[]⟩))=>(by
  have h:=RPlaceS_any (some ⟨w.heap.size,0,none⟩) 10 10 _ s wx hx
  rwa [← hz] at h:Calls Tryd.prog 24 #[.slice (some ⟨w.heap.size,0,none⟩) 10 10,.string s] wx fun e w'=>e=.returned (.int .i64 z)∧w'=wx)
 have L1:=Lib.hid (sin_lit w scalarA 9 z0g z0g)
 clear hz
 rw [← HZ.out]
 go_enter Tryd.func27,Tryd.ntmps27
 repeat any_goals (first|(go_at_call 24;refine (C1.out _ L1.out).mono ?_;rintro e w1 ⟨rfl,rfl⟩)|go_skip|go_guarded|go_step|go_upon|(dsimp only []))
 exact bodyPost_ret (v:=.bool (decide (0≤z))) (by simp [results,Tryd.results27,go_sem]) rfl ⟨rfl,zb2⟩
theorem IndexM_any (f:FuncId) (eg:∀ args W,(callFunc f args).run Tryd.prog W=.ok (.enter f args) W) (B:Nat) (p:Nat→Bool) (a:Option Addr) (n c:Nat) (X:Nat→PM) (w:World) (h:PL w a n c X)
  (hf:∀ i,i < n→∀ w':World,Below w.heap.size w w'→Calls Tryd.prog f #[(X i).agg,.pointer (some ⟨B,0,none⟩)] w' fun e w2=>e=.returned (.bool (p i))∧Below w'.heap.size w' w2) :
  Calls Tryd.prog 49 #[.slice a n c,.func (.func f) #[] #[.pointer (some ⟨B,0,none⟩)]] w fun e w'=>e=.returned (.int .i64 (fstN p n))∧Below w.heap.size w w':=by
 have H:=Lib.hid h
 have HF:=Lib.hid hf
 have q1:=h.l
 have q2:=h.lc
 clear h hf
 simp only [maxLen] at q2
 go_enter Tryd.func49,Tryd.ntmps49
 repeat any_goals (first|go_skip|go_guarded|go_step|go_upon|(simp only [];done))
 go_loopw [8] (fun i wr=>∃ k:Nat,k≤n∧i=.int .i64 k∧fstN p k = -1∧Below w.heap.size w wr) (fun i _=>n - (intOf i).toNat)
 case atStart=>exact ⟨0,Nat.zero_le _,rfl,rfl,Below.refl _ _⟩
 case round=>
  obtain ⟨k,hk,rfl,hA,hW⟩:=hrel
  have H1:=Lib.hid hA
  clear hA
  by_cases hkn:k < n
  ·obtain ⟨b,off,rfl,hb,⟨c0,c1,c2,c3⟩,-⟩:=m_lit H.out hkn hW
   have i1:(k:Int) < (n:Int):=by omega
   have i2:(0:Int)≤(k:Int):=by omega
   have i5:(k:Int).toNat=k:=rfl
   obtain ⟨x,hx⟩:∃ x:Bool,p k=x:=⟨_,rfl⟩
   have HX:=Lib.hid hx
   have HC:∀ w'':World,Below wr.heap.size wr w''→Calls Tryd.prog f #[(X k).agg,.pointer (some ⟨B,0,none⟩)] w'' fun e w'=>e=.returned (.bool x)∧Below w''.heap.size w'' w':=fun w'' hb=>by
    have:=HF.out k hkn w'' (below_trans hW hb)
    rwa [hx] at this
   unfold PM.agg at HC
   have HC:=Lib.hid HC
   clear hx
   cases x with
   | true=>
    repeat any_goals (first|(with_reducible refine calls_at f (HC.out _ zb2) ?_;rintro e w1 ⟨rfl,hb1⟩)|go_skip|go_guarded|go_step|go_upon|(dsimp only []))
    exact bodyPost_ret (v:=.int .i64 k) (by simp [results,Tryd.results49,go_sem]) rfl ⟨by rw [fstN_hit H1.out HX.out hkn],zb2⟩
   | false=>
    exact z8zk4
  ·obtain rfl:k=n:=by omega
   have i1:¬ (k:Int) < (k:Int):=by omega
   repeat any_goals (first|go_skip|go_guarded|go_step|go_upon|(simp only [];done))
   exact bodyPost_ret (v:=.int .i64 (-1)) (by simp [results,Tryd.results49,go_sem]) rfl ⟨by rw [H1.out],hW⟩
theorem IndexF_any (f:FuncId) (eg:∀ args W,(callFunc f args).run Tryd.prog W=.ok (.enter f args) W) (B:Nat) (p:Nat→Bool) (a:Option Addr) (n c:Nat) (X:Nat→PF) (w:World) (h:FIn w a n c X)
  (hf:∀ i,i < n→∀ w':World,Below w.heap.size w w'→Calls Tryd.prog f #[(X i).agg,.pointer (some ⟨B,0,none⟩)] w' fun e w2=>e=.returned (.bool (p i))∧Below w'.heap.size w' w2) :
  Calls Tryd.prog 64 #[.slice a n c,.func (.func f) #[] #[.pointer (some ⟨B,0,none⟩)]] w fun e w'=>e=.returned (.int .i64 (fstN p n))∧Below w.heap.size w w':=by
 have H:=Lib.hid h
 have HF:=Lib.hid hf
 have q1:=h.l
 have q2:=h.lc
 clear h hf
 simp only [maxLen] at q2
 go_enter Tryd.func64,Tryd.ntmps64
 repeat any_goals (first|go_skip|go_guarded|go_step|go_upon|(simp only [];done))
 go_loopw [8] (fun i wr=>∃ k:Nat,k≤n∧i=.int .i64 k∧fstN p k = -1∧Below w.heap.size w wr) (fun i _=>n - (intOf i).toNat)
 case atStart=>exact ⟨0,Nat.zero_le _,rfl,rfl,Below.refl _ _⟩
 case round=>
  obtain ⟨k,hk,rfl,hA,hW⟩:=hrel
  have H1:=Lib.hid hA
  clear hA
  by_cases hkn:k < n
  ·obtain ⟨b,off,rfl,hb,⟨c0,c1,c2,c3,c4,c5⟩,-⟩:=f_lit H.out hkn hW
   have i1:(k:Int) < (n:Int):=by omega
   have i2:(0:Int)≤(k:Int):=by omega
   have i5:(k:Int).toNat=k:=rfl
   obtain ⟨x,hx⟩:∃ x:Bool,p k=x:=⟨_,rfl⟩
   have HX:=Lib.hid hx
   have HC:∀ w'':World,Below wr.heap.size wr w''→Calls Tryd.prog f #[(X k).agg,.pointer (some ⟨B,0,none⟩)] w'' fun e w'=>e=.returned (.bool x)∧Below w''.heap.size w'' w':=fun w'' hb=>by
    have:=HF.out k hkn w'' (below_trans hW hb)
    rwa [hx] at this
   unfold PF.agg at HC
   have HC:=Lib.hid HC
   clear hx
   cases x with
   | true=>
    repeat any_goals (first|(with_reducible refine calls_at f (HC.out _ zb2) ?_;rintro e w1 ⟨rfl,hb1⟩)|go_skip|go_guarded|go_step|go_upon|(dsimp only []))
    exact bodyPost_ret (v:=.int .i64 k) (by simp [results,Tryd.results64,go_sem]) rfl ⟨by rw [fstN_hit H1.out HX.out hkn],zb2⟩
   | false=>
    exact z8zk4
  ·obtain rfl:k=n:=by omega
   have i1:¬ (k:Int) < (k:Int):=by omega
   repeat any_goals (first|go_skip|go_guarded|go_step|go_upon|(simp only [];done))
   exact bodyPost_ret (v:=.int .i64 (-1)) (by simp [results,Tryd.results64,go_sem]) rfl ⟨by rw [H1.out],hW⟩
theorem PlaceC_any (m:PM) (s:ByteArray) (B:Nat) (w:World) (hc:w.cell? ⟨B,0,none⟩=some (.string s)):Calls Tryd.prog 50 #[m.agg,.pointer (some ⟨B,0,none⟩)] w fun e w'=>e=.returned (.bool (eqS m.name s))∧Below w.heap.size w w':=by
 have hB:B < w.heap.size:=World.block_lt_of_cell? w _ hc
 unfold PM.agg eqS
 go_enter Tryd.func50,Tryd.ntmps50
 repeat any_goals (first|go_skip|go_guarded|go_step|go_upon|(simp only [];done))
 exact bodyPost_ret (v:=.bool (m.name.toList == s.toList)) (by simp [results,Tryd.results50,go_sem]) rfl ⟨rfl,zb2⟩
theorem FieldC_any (f:PF) (s:ByteArray) (B:Nat) (w:World) (hc:w.cell? ⟨B,0,none⟩=some (.string s)):Calls Tryd.prog 65 #[f.agg,.pointer (some ⟨B,0,none⟩)] w fun e w'=>e=.returned (.bool (eqS f.name s))∧Below w.heap.size w w':=by
 have hB:B < w.heap.size:=World.block_lt_of_cell? w _ hc
 unfold PF.agg eqS
 go_enter Tryd.func65,Tryd.ntmps65
 repeat any_goals (first|go_skip|go_guarded|go_step|go_upon|(simp only [];done))
 exact bodyPost_ret (v:=.bool (f.name.toList == s.toList)) (by simp [results,Tryd.results65,go_sem]) rfl ⟨rfl,zb2⟩
/-- **Place** of the program -/
theorem PPlace_any (a:Option Addr) (n c:Nat) (M:Nat→PM) (s:ByteArray) (w:World) (h:PL w a n c M) :
  Calls Tryd.prog 33 #[.slice a n c,.string s] w fun e w'=>e=.returned (.int .i64 (placeM M n s))∧Below w.heap.size w w':=by
 have H:=Lib.hid h
 obtain ⟨z,hz⟩:∃ z,z=placeM M n s:=⟨_,rfl⟩
 have hmf:∀ (fn:Fn) (first cap:Array Value) (w:World),(Instr.makeFunc fn first cap).run Tryd.prog w=.ok (.func fn first cap) w:=fun _ _ _ _=>rfl
 have C1:=Lib.hid (fun wx (hx:PL wx a n c M) (hc:wx.cell? ⟨w.heap.size,0,none⟩=some (.string s))=>by
  have:=IndexM_any 50 (enters_of Tryd.func50 z0a rfl) w.heap.size (fun i=>eqS (M i).name s) a n c M wx hx (fun i _ w' hb=>PlaceC_any (M i) s _ w' (keep_cell hb hc))
  rwa [show fstN (fun i=>eqS (M i).name s) n=z from hz.symm] at this)
 rw [← hz]
 clear h hz
 go_enter Tryd.func33,Tryd.ntmps33
 repeat any_goals (first|(go_at_call 49;refine (C1.out _ (H.out.below zb2) (by simp [go_sem])).mono ?_;rintro e w1 ⟨rfl,hb1⟩)|go_skip|go_guarded|go_step|go_upon|(dsimp only []))
 exact bodyPost_ret (v:=.int .i64 z) (by simp [results,Tryd.results33,go_sem]) rfl ⟨rfl,zb2⟩
end Go.Proofs.YtfondldmmcmloaaDoor
namespace Go.Proofs.YtfondldmmcmloaaDoor
open Go
def sgO (D:List (Option Nat)) (o:Oper):Option Nat × List Nat × List Nat:=
 (o.dst,(o.op.operands.toList.filterMap fun | .tmp t=>some t|_=>none) ++ (match o.guard with|some (g,_)=>((D[g]?).getD none).toList|none=>[]),(o.after.toList.filter fun e=>Region.binds .any e).map fun e=>e.on)
def apartS (x y:Option Nat × List Nat × List Nat):Bool:=
 (match x.1 with|some d => !y.2.1.contains d && y.1 != some d|none=>true) && (match y.1 with|some d => !x.2.1.contains d|none=>true)
def pairsB:Nat→List (Option Nat × List Nat × List Nat)→Bool
 | _,[]=>true
 | k,x :: r=>x.2.2.all (fun i=>Nat.blt i k) && r.all (fun y=>y.2.2.contains k || apartS x y) && pairsB (k+1) r
def lexC (l:List Oper):Bool:=Region.noSelect l.toArray && pairsB 0 (l.map (sgO (l.map fun o=>o.dst)))
theorem looks_sg (l:List Oper) (o:Oper):o.looksAt l.toArray=(sgO (l.map fun o=>o.dst) o).2.1:=by
 unfold Oper.looksAt sgO
 cases o.guard with
 | none=>rfl
 | some g=>
  obtain ⟨g,b⟩:=g
  simp only [List.getElem?_map,List.getElem?_toArray]
  cases l[g]? <;> rfl
theorem apart_sg (l:List Oper) (x y:Oper) (h:apartS (sgO (l.map fun o=>o.dst) x) (sgO (l.map fun o=>o.dst) y)=true):x.apart l.toArray y=true:=by
 unfold Oper.apart
 rw [looks_sg,looks_sg]
 exact h
theorem waits_sg (D:List (Option Nat)) (o:Oper) (k:Nat) (h:(sgO D o).2.2.contains k=true):∃ e ∈ o.after,Region.binds .any e=true∧e.on=k:=by
 simp only [sgO,List.contains_iff_mem,List.mem_map,List.mem_filter] at h
 obtain ⟨e,⟨h1,h2⟩,h3⟩:=h
 exact ⟨e,Array.mem_toList_iff.1 h1,h2,h3⟩
section
variable {P:Program} {C:World→Prop}
theorem wpAnyQ_lexC {l:List Oper} {Q:Act→Prop} (hs:Region.noSelect l.toArray=true) (r:List Oper) :
  ∀ (k:Nat) (listed:Array Bool) (a:Act),(∀ j,r[j]? = l[k+j]?)→listed.size=l.length→(∀ j,listed.getD j true=true↔(j < k∨l.length≤j)) →
   pairsB k (r.map (sgO (l.map fun o=>o.dst)))=true→wpQuiet P l.toArray C Q r a→wpAnyQ P .any l.toArray C Q r.length listed a:=by
 induction r with
 | nil=>
  intro k listed a hr hsz hd _ h
  have hk:l.length≤k:=by
   have h1:=hr 0
   rw [Nat.add_zero] at h1
   exact List.getElem?_eq_none_iff.1 h1.symm
  refine ⟨List.eq_nil_iff_forall_not_mem.2 fun j hj=>?_,h⟩
  have h1:=(mem_ready.1 hj).1
  have h2:listed.getD j true=true:=(hd j).2 z0b
  rw [h2] at h1
  cases h1
 | cons o r ih=>
  intro k listed a hr hsz hd hB h
  have h0:l.toArray[k]? = some o:=by
   have h1:=hr 0
   rw [Nat.add_zero] at h1
   rw [List.getElem?_toArray]
   exact h1.symm
  have hkl:k < l.length:=by
   rw [List.getElem?_toArray] at h0
   exact (List.getElem?_eq_some_iff.1 h0).1
  simp only [List.map_cons,pairsB,Bool.and_eq_true] at hB
  obtain ⟨⟨hB1,hB2⟩,hB3⟩:=hB
  have hun:listed.getD k true=false:=by
   rw [← Bool.not_eq_true]
   intro h1
   have:=(hd k).1 h1
   omega
  have hin:∀ i,i < k→listed.getD i false=true:=by
   intro i hi
   cases h1:listed.getD i false with
   | true=>rfl
   | false=>
    have h2:=getD_in z0b h1
    have h3:=(hd i).2 (.inl hi)
    rw [h2] at h3
    cases h3
  have hrd:k ∈ Region.ready .any l.toArray listed:=by
   refine mem_ready.2 ⟨hun,o,h0,fun e he hb=>hin _ ?_⟩
   have h1:=List.all_eq_true.1 hB1 e.on (by
    simp only [sgO,List.mem_map,List.mem_filter]
    exact ⟨e,⟨Array.mem_toList_iff.2 he,hb⟩,rfl⟩)
   exact (Nat.blt_eq ▸ h1:e.on < k)
  have hst:qOp P l.toArray C k (wpQuiet P l.toArray C Q r) a:=by unfold qOp;simp only [h0];exact h
  obtain ⟨v,hy,hK⟩:=yieldsIn_of_qOp h0 hst
  refine wpAnyQ_first h0 (Region.noSelect_spec hs) r.length listed a (fun j oj hoj hne hju hno=>?_) hrd hy ?_
  ·have hjk:k < j:=by
    apply Nat.lt_of_not_le
    intro hle
    have h3:=(hd j).2 (.inl z0b)
    rw [hju] at h3
    cases h3
   have hmem:oj ∈ r:=by
    have h1:=hr (j - k)
    rw [List.getElem?_toArray] at hoj
    rw [show k+(j - k)=j from by omega,hoj,show j - k=(j - k - 1)+1 from by omega,List.getElem?_cons_succ] at h1
    exact List.mem_of_getElem? h1
   have h2:=List.all_eq_true.1 hB2 _ (List.mem_map_of_mem hmem)
   rw [Bool.or_eq_true] at h2
   rcases h2 with h2|h2
   ·obtain ⟨e,he,hb,hon⟩:=waits_sg _ _ _ h2
    exact absurd hon (hno e he hb)
   ·exact apart_sg l o oj h2
  ·refine ih (k+1) _ _ (fun j=>?_) (by rw [Array.size_setIfInBounds];exact hsz) (fun j=>?_) hB3 hK
   ·have h1:=hr (j+1)
    rw [List.getElem?_cons_succ] at h1
    rw [h1,show k+1+j=k+(j+1) from by omega]
   ·by_cases c:k=j
    ·subst c
     constructor
     ·intro _
      omega
     ·intro _
      have hks:k < listed.size:=by omega
      simp [hks]
    ·rw [getD_set_ne true c,hd j]
     omega
end
theorem wp_region_quiet_great {P:Program} {C:World→Prop} {id:Nat} {Q:Exit→Act→World→Prop} {a:Act} {w:World} {l:List Oper} (hm:P.follows .mixedOrders=true) (hB:lexC l=true) (hC:C w.drew)
  (h:wpQuiet P l.toArray C (fun a'=>∀ w',C w'→Q .normal a' w') l a):(Code.region id l.toArray true).wp P Q a w:=by
 simp only [lexC,Bool.and_eq_true] at hB
 refine wp_region_any hm (wpAny_of_quiet (Q:=fun a'=>∀ w',C w'→Q .normal a' w') (fun _ w' hw' h=>h w' hw') _ _ _ _ hC ?_)
 have H:=wpAnyQ_lexC (C:=C) (Q:=fun a'=>∀ w',C w'→Q .normal a' w') hB.1 l 0 (Array.replicate l.toArray.size false) a (fun j=>by rw [Nat.zero_add]) z0c (fun j=>by
  by_cases c:j < l.length
  ·simp [c]
  ·simp [c]
   omega) hB.2 h
 simpa using H
end Go.Proofs.YtfondldmmcmloaaDoor
