/- PE. -/
import Derived.Maps.OwnOps
import Derived.Maps.Views
import Derived.Test.YtfondldmmcmloaaDoorPd10
set_option maxRecDepth 1000000
set_option maxHeartbeats 8000000
namespace Go.Proofs.YtfondldmmcmloaaDoor
open Go Go.RowKit
theorem z11zk1 {p:Prop} (h:p:=by
 (try have g1:(1:Int) < (mc:Int):=by omega)
 (try have g2:¬ (1:Int) < (mc:Int):=by omega)
 have hb:fldBad M n m k=true:=by rw [HBD2.out];simp [*]
 repeat any_goals (first|(go_at_call 30;with_reducible refine (C1.out _).mono ?_;rintro e w6 ⟨rfl,rfl⟩)|(go_at_call 32;with_reducible refine (D5.out _ hW5).mono ?_;rintro e w6 ⟨rfl,rfl⟩)|(go_at_call 31;with_reducible refine (C2.out _).mono ?_;rintro e w6 ⟨rfl,rfl⟩)|(go_at_call 33;with_reducible refine (C3.out _ hW5).mono ?_;rintro e w7 ⟨rfl,hb7⟩;have M7:=Lib.hid (M5.out.below hb7);have F7:=Lib.hid (F5.out.below hb7);obtain ⟨_,_,_,_⟩:=M7.out.all;obtain ⟨_,_,_,_,_,_⟩:=F7.out.all;have hl7:=L2.out _ hb7;have hW7:=below_trans hW5 hb7)|(go_at_call 55;(first|with_reducible refine (D4.out _ hW7).mono ?_|with_reducible refine (D4.out _ hW5).mono ?_);rintro e w8 ⟨rfl,rfl⟩)|go_skip|go_guarded|go_step|go_upon|(dsimp only []))
 exact bodyPost_ret (v:=.bool false) z0k rfl ⟨by rw [HR.out];unfold fieldsB;rw [anyN_of hb hkn];rfl,by (first|exact hW7|exact hW5)⟩):p:=h
theorem z11zk2 {p:Prop} (h:p:=by
 (try have g1:(1:Int) < (mc:Int):=by omega)
 (try have g2:¬ (1:Int) < (mc:Int):=by omega)
 have hb:fldBad M n m k=false:=by rw [HBD2.out];simp [*]
 go_upto_region 26 with (first|(go_at_call 30;with_reducible refine (C1.out _).mono ?_;rintro e w6 ⟨rfl,rfl⟩)|(go_at_call 32;with_reducible refine (D5.out _ hW5).mono ?_;rintro e w6 ⟨rfl,rfl⟩)|(go_at_call 31;with_reducible refine (C2.out _).mono ?_;rintro e w6 ⟨rfl,rfl⟩)|(go_at_call 33;with_reducible refine (C3.out _ hW5).mono ?_;rintro e w7 ⟨rfl,hb7⟩;have M7:=Lib.hid (M5.out.below hb7);have F7:=Lib.hid (F5.out.below hb7);obtain ⟨_,_,_,_⟩:=M7.out.all;obtain ⟨_,_,_,_,_,_⟩:=F7.out.all;have hl7:=L2.out _ hb7;have hW7:=below_trans hW5 hb7)|(go_at_call 55;(first|with_reducible refine (D4.out _ hW7).mono ?_|with_reducible refine (D4.out _ hW5).mono ?_);rintro e w8 ⟨rfl,rfl⟩))
 first|(have WX:=Lib.hid (Below.drew hW7);have FX:=Lib.hid (F7.out.below (Below.refl _ _).drew);have MX:=Lib.hid (M7.out.below (Below.refl _ _).drew);have P:=PU.out _ (Below.drew hb7))|(have WX:=Lib.hid (Below.drew hW5);have FX:=Lib.hid (F5.out.below (Below.refl _ _).drew);have MX:=Lib.hid (M5.out.below (Below.refl _ _).drew);have P:=PU.out _ (Below.drew hq5))
 obtain ⟨wa,wab,wb,wba,ra,rab,rb,rba,⟨Sab,Kab⟩,⟨Sba,Kba⟩,Ka,Kb⟩:=P
 have Fa:=Lib.hid (FX.out.but Ka HB6.out.1 HB6.out.2)
 have Fb:=Lib.hid (FX.out.but Kb HB6.out.1 HB6.out.2)
 obtain ⟨_,_,_,_,_,_⟩:=FX.out.all
 obtain ⟨_,_,_,_,_,_⟩:=Fa.out.all
 obtain ⟨_,_,_,_,_,_⟩:=Fb.out.all
 have HK:=Lib.hid (And.intro Kab Kba)
 have HS2:=Lib.hid (And.intro Sab Sba)
 clear Ka Kb Kab Kba Sab Sba
 go_region
 all_goals (repeat any_goals (first|go_skip|go_guarded|go_step|go_upon|(simp only [];done)))
 all_goals go_roundw
 all_goals (first|exact ⟨k+1,by omega,rfl,by show (anyN (fldBad M n m) k || fldBad M n m k)=false;rw [H5.out,hb];rfl,HS2.out.1,HK.out.1.bw WX.out HB.out.1 HB.out.2.1,MX.out.but HK.out.1 HB.out.2.2.1 HB.out.2.2.2⟩|exact ⟨k+1,by omega,rfl,by show (anyN (fldBad M n m) k || fldBad M n m k)=false;rw [H5.out,hb];rfl,HS2.out.2,HK.out.2.bw WX.out HB.out.1 HB.out.2.1,MX.out.but HK.out.2 HB.out.2.2.1 HB.out.2.2.2⟩|(simp [intOf];done)|(simp [intOf];omega))):p:=h
theorem z11zk3 {p:Prop} (h:p:=by
 have e:A=true:=by rw [hA2];simp [*]
 clear hA2
 subst e
 (try have f1:(50:Int) < (m.nF:Int):=by omega)
 (try have f2:¬ (50:Int) < (m.nF:Int):=by omega)
 (try have f3:(100:Int) < (m.nN:Int):=by omega)
 (try have f4:¬ (100:Int) < (m.nN:Int):=by omega)
 (try have f5:(100:Int) < (m.nS:Int):=by omega)
 (try have f6:¬ (100:Int) < (m.nS:Int):=by omega)
 repeat any_goals (first|(go_at_call 51;with_reducible refine (C4.out _ hW0).mono ?_;rintro e w3 ⟨rfl,hb3⟩;have Mq:=Lib.hid (M0.out.below hb3);obtain ⟨_,_,_,_⟩:=Mq.out.all)|(go_at_call 53;with_reducible refine (C5.out _ (below_trans hW0 hb3)).mono ?_;rintro e w4 ⟨rfl,rfl⟩)|go_skip|go_guarded|go_step|go_upon|(dsimp only []))
 go_meet
 case rel=>exact ⟨rfl,by (first|exact hb3|exact Below.refl _ _)⟩):p:=h
theorem z11zk4 {p:Prop} (h:p:=by
 subst e
 repeat any_goals (first|go_skip|go_guarded|go_step|go_upon|(simp only [];done))
 exact bodyPost_ret (v:=.bool true) (by simp [results,Tryd.results54,go_sem]) rfl ⟨rfl,rfl⟩):p:=h
end Go.Proofs.YtfondldmmcmloaaDoor
namespace Go.Proofs.YtfondldmmcmloaaDoor
open Go.RowKit
theorem IndexI_any (f:FuncId) (eg:∀ args W,(callFunc f args).run Tryd.prog W=.ok (.enter f args) W) (p:Nat→Bool) (a:Option Addr) (n c:Nat) (N:Nat→Int) (w:World) (h:NIn w a n c N)
  (hf:∀ i,i < n→∀ w':World,Calls Tryd.prog f #[.int .i64 (N i)] w' fun e w2=>e=.returned (.bool (p i))∧w2=w') :
  Calls Tryd.prog 69 #[.slice a n c,.func (.func f) #[] #[]] w fun e w'=>e=.returned (.int .i64 (fstN p n))∧w'=w:=by
 have H:=Lib.hid h
 have HF:=Lib.hid hf
 have q1:=h.l
 have q2:=h.lc
 clear h hf
 simp only [maxLen] at q2
 go_enter Tryd.func69,Tryd.ntmps69
 repeat any_goals (first|go_skip|go_guarded|go_step|go_upon|(simp only [];done))
 go_loop [8] (fun i=>∃ k:Nat,k≤n∧i=.int .i64 k∧fstN p k = -1) (fun i=>n - (intOf i).toNat)
 case atStart=>exact ⟨0,Nat.zero_le _,rfl,rfl⟩
 case round=>
  obtain ⟨k,hk,rfl,hA⟩:=hrel
  have H1:=Lib.hid hA
  clear hA
  by_cases hkn:k < n
  ·obtain ⟨b,off,rfl,hb,hc,hlo,hhi⟩:=n_lit H.out hkn (Below.refl _ _)
   clear hlo hhi
   have i1:(k:Int) < (n:Int):=by omega
   have i2:(0:Int)≤(k:Int):=by omega
   have i5:(k:Int).toNat=k:=rfl
   obtain ⟨x,hx⟩:∃ x:Bool,p k=x:=⟨_,rfl⟩
   have HX:=Lib.hid hx
   have HC:=Lib.hid fun wx=>HF.out k hkn wx
   rw [hx] at HC
   clear hx
   cases x with
   | true=>
    repeat any_goals (first|(with_reducible refine calls_at f (HC.out _) ?_;rintro e w1 ⟨rfl,rfl⟩)|go_skip|go_guarded|go_step|go_upon|(dsimp only []))
    exact bodyPost_ret (v:=.int .i64 k) (by simp [results,Tryd.results69,go_sem]) rfl ⟨by rw [fstN_hit H1.out HX.out hkn],rfl⟩
   | false=>
    repeat any_goals (first|(with_reducible refine calls_at f (HC.out _) ?_;rintro e w1 ⟨rfl,rfl⟩)|go_skip|go_guarded|go_step|go_upon|(dsimp only []))
    go_round
    case rel=>exact ⟨k+1,by omega,rfl,fstN_on H1.out HX.out⟩
    case measure=>simp [intOf];omega
  ·obtain rfl:k=n:=by omega
   have i1:¬ (k:Int) < (k:Int):=by omega
   repeat any_goals (first|go_skip|go_guarded|go_step|go_upon|(simp only [];done))
   exact bodyPost_ret (v:=.int .i64 (-1)) (by simp [results,Tryd.results69,go_sem]) rfl ⟨by rw [H1.out],rfl⟩
theorem ContI_any (f:FuncId) (eg:∀ args W,(callFunc f args).run Tryd.prog W=.ok (.enter f args) W) (p:Nat→Bool) (a:Option Addr) (n c:Nat) (N:Nat→Int) (w:World) (h:NIn w a n c N)
  (hf:∀ i,i < n→∀ w':World,Calls Tryd.prog f #[.int .i64 (N i)] w' fun e w2=>e=.returned (.bool (p i))∧w2=w') :
  Calls Tryd.prog 53 #[.slice a n c,.func (.func f) #[] #[]] w fun e w'=>e=.returned (.bool (anyN p n))∧w'=w:=by
 have C:=IndexI_any f eg p a n c N w h hf
 obtain ⟨z,hz⟩:∃ z,z=fstN p n:=⟨_,rfl⟩
 have e:=fstN_any (p:=p) n
 rw [← hz] at C e
 have C:=Lib.hid C
 rw [← e]
 clear h hf hz e
 go_enter Tryd.func53,Tryd.ntmps53
 repeat any_goals (first|(go_at_call 69;with_reducible refine C.out.mono ?_;rintro e w1 ⟨rfl,rfl⟩)|go_skip|go_guarded|go_step|go_upon|(dsimp only []))
 exact bodyPost_ret (v:=.bool (decide (0≤z))) (by simp [results,Tryd.results53,go_sem]) rfl ⟨rfl,rfl⟩
theorem right1_any (s:ByteArray) (hs:s.size≤maxLen) (w:World):Calls Tryd.prog 52 #[.string s] w fun e w'=>e=.returned (.bool (!named s))∧w'=w:=by
 have C:=Lib.hid fun wx=>Named_any s hs wx
 generalize named s=x at C ⊢
 go_enter Tryd.func52,Tryd.ntmps52
 repeat any_goals (first|(go_at_call 30;with_reducible refine (C.out _).mono ?_;rintro e w1 ⟨rfl,rfl⟩)|go_skip|go_guarded|go_step|go_upon|(dsimp only []))
 exact bodyPost_ret (v:=.bool (!x)) (by simp [results,Tryd.results52,go_sem]) rfl ⟨rfl,rfl⟩
theorem right2_any (z:Int) (w:World):Calls Tryd.prog 54 #[.int .i64 z] w fun e w'=>e=.returned (.bool (numBad z))∧w'=w:=by
 obtain ⟨R,hR⟩:∃ R,R=numBad z:=⟨_,rfl⟩
 rw [← hR]
 have HR:=Lib.hid hR
 clear hR
 go_enter Tryd.func54,Tryd.ntmps54
 by_cases c1:z < 1
 ·have e:R=true:=by rw [HR.out];unfold numBad;rw [decide_eq_true c1];rfl
  exact z11zk4
 ·by_cases c2:536870911 < z
  ·have e:R=true:=by rw [HR.out];unfold numBad;rw [decide_eq_true c2,Bool.or_true]
   exact z11zk4
  ·have e:R=false:=by rw [HR.out];unfold numBad;rw [decide_eq_false c1,decide_eq_false c2];rfl
   subst e
   repeat any_goals (first|go_skip|go_guarded|go_step|go_upon|(simp only [];done))
   exact bodyPost_ret (v:=.bool false) (by simp [results,Tryd.results54,go_sem]) rfl ⟨rfl,rfl⟩
open Go.Maps in
theorem lawS:Keyed Tryd.prog 9:=string_keyed Tryd.underlying9
open Go.Maps in
theorem lawI:Keyed Tryd.prog 3:=int_keyed Tryd.underlying3
theorem zeroB (w:World):(zeroValue 4).run Tryd.prog w=.ok (.bool false) w:=by kernel_rfl
def setS (S:Nat→ByteArray):Nat→DataW Unit
 | 0=>.map []
 | k+1=>(setS S k).put (.string (S k).data.toList) (.lit (.bool true))
def setI (N:Nat→Int):Nat→DataW Unit
 | 0=>.map []
 | k+1=>(setI N k).put (.int .i64 (N k)) (.lit (.bool true))
theorem setS_isMap (S:Nat→ByteArray) (k:Nat):Maps.IsMap (setS S k):=by
 induction k with
 | zero=>exact Maps.isMap_empty
 | succ k ih=>exact ih.put _ _
theorem setI_isMap (N:Nat→Int) (k:Nat):Maps.IsMap (setI N k):=by
 induction k with
 | zero=>exact Maps.isMap_empty
 | succ k ih=>exact ih.put _ _
theorem setS_at (S:Nat→ByteArray) (s:ByteArray) (k:Nat):(setS S k).atKey (.string s.data.toList) (.lit (.bool false))=.lit (.bool (anyN (fun j=>eqS (S j) s) k)):=by
 induction k with
 | zero=>rfl
 | succ k ih=>
  have e:anyN (fun j=>eqS (S j) s) (k+1)=(anyN (fun j=>eqS (S j) s) k || eqS (S k) s):=rfl
  simp only [setS]
  rw [e]
  by_cases c:S k=s
  ·subst c
   rw [Maps.atKey_put_same (setS_isMap S k) (show WideAt.IsKeyLit (.string (S k).data.toList) from trivial),show eqS (S k) (S k)=true from eqS_iff.2 rfl,Bool.or_true]
  ·have hne:(Lit.string s.data.toList)≠.string (S k).data.toList:=fun h=>c (by
    injection h with h
    exact (toList_inj (by rw [ByteArray.toList_eq,ByteArray.toList_eq,h])).symm)
   rw [Maps.atKey_put_other hne,ih,show eqS (S k) s=false from Bool.eq_false_iff.2 (fun h=>c (eqS_iff.1 h)),Bool.or_false]
theorem setI_at (N:Nat→Int) (z:Int) (k:Nat):(setI N k).atKey (.int .i64 z) (.lit (.bool false))=.lit (.bool (anyN (fun j=>N j == z) k)):=by
 induction k with
 | zero=>rfl
 | succ k ih=>
  have e:anyN (fun j=>N j == z) (k+1)=(anyN (fun j=>N j == z) k || (N k == z)):=rfl
  simp only [setI]
  rw [e]
  by_cases c:N k=z
  ·subst c
   rw [Maps.atKey_put_same (setI_isMap N k) (show WideAt.IsKeyLit (.int .i64 (N k)) from trivial),show (N k == N k)=true from beq_self_eq_true _,Bool.or_true]
  ·have hne:(Lit.int .i64 z)≠.int .i64 (N k):=fun h=>c (by injection h with _ h;exact h.symm)
   rw [Maps.atKey_put_other hne,ih,show (N k == z)=false from beq_false_of_ne c,Bool.or_false]
structure SetsI (w:World) (B1 B2 k:Nat) (S:Nat→ByteArray) (N:Nat→Int):Prop where
 s:w.ownsMap Tryd.prog 9 (plainElem Tryd.prog 4) B1 k (setS S k)
 n:w.ownsMap Tryd.prog 3 (plainElem Tryd.prog 4) B2 k (setI N k)
 ne:B1≠B2
theorem owns_below {w w':World} {K B k:Nat} {R:Value→Option (DataW Unit × List MemPlace)} {D:DataW Unit} (h:w.ownsMap Tryd.prog K R B k D) (hb:Below w.heap.size w w'):w'.ownsMap Tryd.prog K R B k D:=by
 have hlt:=h.lt
 obtain ⟨es,clock,he,F,hs,hD⟩:=h
 exact ⟨es,clock,(hb.block B hlt).trans he,F,hs,hD⟩
theorem SetsI.below {w w':World} {B1 B2 k:Nat} {S:Nat→ByteArray} {N:Nat→Int} (h:SetsI w B1 B2 k S N) (hb:Below w.heap.size w w'):SetsI w' B1 B2 k S N:=⟨owns_below h.s hb,owns_below h.n hb,h.ne⟩
theorem bool_back {v:Value} {b:Bool} {ps:List MemPlace} (h:plainElem (H:=Unit) Tryd.prog 4 v=some (.lit (.bool b),ps)):v=.bool b:=by
 have hu:=Tryd.underlying4
 generalize Tryd.prog=P at *
 unfold plainElem at h
 rw [hu] at h
 cases v <;> simp at h
 rw [h.1]
theorem SetsI.lookS {w:World} {B1 B2 k:Nat} {S:Nat→ByteArray} {N:Nat→Int} (h:SetsI w B1 B2 k S N) (s:ByteArray) (hs:s.size≤maxLen) :
  (Instr.lookup 88 (.map (some B1)) (.string s) false).run Tryd.prog w=.ok (.bool (anyN (fun j=>eqS (S j) s) k)) w:=by
 obtain ⟨v,ps,hrun,hv⟩:=h.s.lookup lawS Tryd.underlying88 (zeroB w) (plainElem_bool Tryd.underlying4 false) (WideMaps.keyOf_string_mk Tryd.underlying9 hs)
 rw [setS_at] at hv
 rw [hrun,bool_back hv]
theorem SetsI.lookI {w:World} {B1 B2 k:Nat} {S:Nat→ByteArray} {N:Nat→Int} (h:SetsI w B1 B2 k S N) (z:Int) (hz:(Lit.int .i64 z).wf=true) :
  (Instr.lookup 89 (.map (some B2)) (.int .i64 z) false).run Tryd.prog w=.ok (.bool (anyN (fun j=>N j == z) k)) w:=by
 obtain ⟨v,ps,hrun,hv⟩:=h.n.lookup lawI Tryd.underlying89 (zeroB w) (plainElem_bool Tryd.underlying4 false) (Maps.keyOf_int_mk Tryd.underlying3 hz)
 rw [setI_at] at hv
 rw [hrun,bool_back hv]
theorem anyN_ex {p:Nat→Bool} {n:Nat} (h:anyN p n=true):∃ j,j < n∧p j=true:=by
 induction n with
 | zero=>cases h
 | succ n ih=>
  rcases (Bool.or_eq_true _ _).mp (show (anyN p n || p n)=true from h) with h|h
  ·obtain ⟨j,hj,e⟩:=ih h
   exact ⟨j,by omega,e⟩
  ·exact ⟨n,by omega,h⟩
theorem mem_any {S:Nat→ByteArray} {n:Nat} {s:ByteArray}:Lib.containsS (((List.range n).map S).take n) s=anyN (fun j=>eqS (S j) s) n:=by
 rw [List.take_of_length_le z0c,Bool.eq_iff_iff,Lib.containsS_iff]
 constructor
 ·intro h
  obtain ⟨j,hj,e⟩:=List.mem_map.1 h
  exact anyN_of (p:=fun j=>eqS (S j) s) (eqS_iff.2 e) (List.mem_range.1 hj)
 ·intro h
  obtain ⟨j,hj,e⟩:=anyN_ex h
  exact List.mem_map.2 ⟨j,List.mem_range.2 hj,eqS_iff.1 e⟩
theorem mem_anyI {N:Nat→Int} {n:Nat} {z:Int}:(((List.range n).map N).take n).contains z=anyN (fun j=>N j == z) n:=by
 rw [List.take_of_length_le z0c,Bool.eq_iff_iff,List.contains_iff_mem]
 constructor
 ·intro h
  obtain ⟨j,hj,e⟩:=List.mem_map.1 h
  exact anyN_of (p:=fun j=>N j == z) (beq_iff_eq.2 e) (List.mem_range.1 hj)
 ·intro h
  obtain ⟨j,hj,e⟩:=anyN_ex h
  exact List.mem_map.2 ⟨j,List.mem_range.2 hj,beq_iff_eq.1 e⟩
theorem getD_map {α:Type} {S:Nat→α} {n j:Nat} {d:α} (hj:j < n):((List.range n).map S).getD j d=S j:=by
 rw [List.getD_eq_getElem?_getD,List.getElem?_map,List.getElem?_range hj]
 rfl
theorem PContS_any (a:Option Addr) (n c:Nat) (S:Nat→ByteArray) (s:ByteArray) (w:World) (h:SIn w a n c S):Calls Tryd.prog 32 #[.slice a n c,.string s] w fun e w'=>e=.returned (.bool (anyN (fun j=>eqS (S j) s) n))∧w'=w:=by
 rcases h.c with rfl|⟨b,off,rfl,hb,hc⟩
 ·exact Tryd.slices_Contains_string_empty a c s w
 ·have:=Tryd.slices_Contains_string b off n c ((List.range n).map S) s w z0c (by have:=h.l;have:=h.lc;unfold maxLen at *;omega) (fun j hj=>by
   rw [List.length_map,List.length_range] at hj
   rw [getD_map hj]
   exact (hc j hj).1)
  rwa [mem_any] at this
theorem PContI_any (a:Option Addr) (n c:Nat) (N:Nat→Int) (z:Int) (w:World) (h:NIn w a n c N):Calls Tryd.prog 55 #[.slice a n c,.int .i64 z] w fun e w'=>e=.returned (.bool (anyN (fun j=>N j == z) n))∧w'=w:=by
 rcases h.c with rfl|⟨b,off,rfl,hb,hc⟩
 ·exact Tryd.slices_Contains_int_empty a c z w
 ·have:=Tryd.slices_Contains_int b off n c ((List.range n).map N) z w z0c (by have:=h.l;have:=h.lc;unfold maxLen at *;omega) (fun j hj=>by
   rw [List.length_map,List.length_range] at hj
   rw [getD_map hj]
   exact (hc j hj).1)
  rwa [mem_anyI] at this
theorem anyN_or {p q:Nat→Bool} (n:Nat):anyN (fun i=>p i || q i) n=(anyN p n || anyN q n):=by
 induction n with
 | zero=>rfl
 | succ n ih=>
  show (anyN (fun i=>p i || q i) n || (p n || q n))=((anyN p n || p n) || (anyN q n || q n))
  rw [ih]
  cases anyN p n <;> cases anyN q n <;> cases p n <;> cases q n <;> rfl
structure But (b f:Nat) (w w':World):Prop where
 os:w'.os=w.os
 tape:w'.tape=w.tape
 output:w'.output=w.output
 size:w.heap.size≤w'.heap.size
 block:∀ k,k < w.heap.size→k≠b→k≠f→w'.heap[k]? = w.heap[k]?
theorem But.cell {b f:Nat} {w w1:World} {p:Addr} {v:Value} (h:But b f w w1) (hb:p.block≠b) (hf:p.block≠f) (hc:w.cell? p=some v):w1.cell? p=some v:=by
 have e:=h.block p.block (World.block_lt_of_cell? w p hc) hb hf
 rw [← hc]
 unfold World.cell?
 rw [e]
theorem But.bw {w w1 wr:World} {b f:Nat} (hb:Below w.heap.size w w1) (k:But b f w1 wr) (h1:w.heap.size≤b) (h2:w.heap.size≤f):Below w.heap.size w wr:=
 ⟨k.os.trans hb.os,k.tape.trans hb.tape,k.output.trans hb.output,Nat.le_trans hb.size k.size,fun j hj=>(k.block j (Nat.lt_of_lt_of_le hj hb.size) z0b z0b).trans (hb.block j hj)⟩
theorem but_two {w w1 w2:World} {b f:Nat} (h1:w.grownBy w1 (some b)) (h2:w1.grownBy w2 (some f)):But b f w w2:=
 ⟨h2.os.trans h1.os,h2.tape.trans h1.tape,h2.output.trans h1.output,Nat.le_trans h1.size h2.size,fun k hk hb hf=>(h2.block k (Nat.lt_of_lt_of_le hk h1.size) (fun e=>hf (Option.some.inj e))).trans (h1.block k hk (fun e=>hb (Option.some.inj e)))⟩
theorem but_one {w w1:World} {b f:Nat} (h1:w.grownBy w1 (some b)):But b f w w1:=
 ⟨h1.os,h1.tape,h1.output,h1.size,fun k hk hb _=>h1.block k hk (fun e=>hb (Option.some.inj e))⟩
theorem FBx.but {w w1:World} {b f B:Nat} {nm ty:ByteArray} {nu:Int} {op re ma:Bool} (h:FBx w B nm ty nu op re ma) (k:But b f w w1) (hb:B≠b) (hf:B≠f):FBx w1 B nm ty nu op re ma:=by
 obtain ⟨h0,h1,h2,h3,h4,h5⟩:=h.all
 exact ⟨k.cell hb hf h0,k.cell hb hf h1,k.cell hb hf h2,k.cell hb hf h3,k.cell hb hf h4,k.cell hb hf h5⟩
theorem MBx.but {w w1:World} {b f B:Nat} {m:PM} (h:MBx w B m) (k:But b f w w1) (hb:B≠b) (hf:B≠f):MBx w1 B m:=by
 obtain ⟨h0,h1,h2,h3⟩:=h.all
 exact ⟨k.cell hb hf h0,k.cell hb hf h1,k.cell hb hf h2,k.cell hb hf h3⟩
theorem But.swap {w w1:World} {b f:Nat} (h:But b f w w1):But f b w w1:=⟨h.os,h.tape,h.output,h.size,fun k hk h1 h2=>h.block k hk h2 h1⟩
theorem SetsI.put {W:World} {B1 B2 k:Nat} {S:Nat→ByteArray} {N:Nat→Int} (h:SetsI W B1 B2 k S N) (hk:k < maxLen) {nm:ByteArray} {nu:Int} (hn:S k=nm) (hz:N k=nu) (hs:nm.size≤maxLen) (hw:(Lit.int .i64 nu).wf=true) :
  ∃ wa wab wb wba,(Instr.mapUpdate 88 (.map (some B1)) (.string nm) (.bool true)).run Tryd.prog W=.ok () wa∧(Instr.mapUpdate 89 (.map (some B2)) (.int .i64 nu) (.bool true)).run Tryd.prog wa=.ok () wab ∧
   (Instr.mapUpdate 89 (.map (some B2)) (.int .i64 nu) (.bool true)).run Tryd.prog W=.ok () wb∧(Instr.mapUpdate 88 (.map (some B1)) (.string nm) (.bool true)).run Tryd.prog wb=.ok () wba ∧
   (SetsI wab B1 B2 (k+1) S N∧But B1 B2 W wab)∧(SetsI wba B1 B2 (k+1) S N∧But B1 B2 W wba)∧But B1 B2 W wa∧But B1 B2 W wb:=by
 subst hn hz
 obtain ⟨wa,ra,oa,ga⟩:=h.s.update lawS Tryd.underlying88 hk (WideMaps.keyOf_string_mk Tryd.underlying9 hs) (plainElem_bool Tryd.underlying4 true)
 have na:=h.n.kept ga (fun e=>h.ne (Option.some.inj e).symm)
 obtain ⟨wab,rab,oab,gab⟩:=na.update lawI Tryd.underlying89 hk (Maps.keyOf_int_mk Tryd.underlying3 hw) (plainElem_bool Tryd.underlying4 true)
 obtain ⟨wb,rb,ob,gb⟩:=h.n.update lawI Tryd.underlying89 hk (Maps.keyOf_int_mk Tryd.underlying3 hw) (plainElem_bool Tryd.underlying4 true)
 have sb:=h.s.kept gb (fun e=>h.ne (Option.some.inj e))
 obtain ⟨wba,rba,oba,gba⟩:=sb.update lawS Tryd.underlying88 hk (WideMaps.keyOf_string_mk Tryd.underlying9 hs) (plainElem_bool Tryd.underlying4 true)
 exact ⟨wa,wab,wb,wba,ra,rab,rb,rba,⟨⟨oa.kept gab (fun e=>h.ne (Option.some.inj e)),oab,h.ne⟩,but_two ga gab⟩,⟨⟨oba,ob.kept gba (fun e=>h.ne (Option.some.inj e).symm),h.ne⟩,(but_two gb gba).swap⟩,but_one ga,(but_one gb).swap⟩
def rightB (M:Nat→PM) (n:Nat) (m:PM):Bool:=
 !(decide (50 < m.nF) || (decide (100 < m.nN) || (decide (100 < m.nS) || (anyN (fun j => !named (m.S j)) m.nS || anyN (fun j=>numBad (m.N j)) m.nN)))) && fieldsB M n m
def b2n (b:Bool):Nat:=if b=true then 1 else 0
def manyN (op re ma:Bool):Nat→Nat
 | 0=>0
 | 1=>b2n op
 | 2=>b2n op+b2n re
 | _=>b2n op+b2n re+b2n ma
theorem fld_all {M:Nat→PM} {n k:Nat} {m:PM} {nm ty:ByteArray} {nu:Int} {op re ma:Bool} (h:m.F k=⟨nm,ty,nu,op,re,ma⟩) :
  fldBad M n m k=(decide (1 < manyN op re ma 3) || (!named nm || (anyN (fun j=>eqS (m.F j).name nm) k || (anyN (fun j=>eqS (m.S j) nm) m.nS || (!scalarB ty && decide (placeM M n ty < 0) || (decide (nu < 1) || (decide (536870911 < nu) || (decide (19000≤nu) && decide (nu≤19999) || (anyN (fun j=>(m.F j).number == nu) k || anyN (fun j=>m.N j == nu) m.nN))))))))):=by
 unfold fldBad fldA fldB fldC
 rw [h]
 dsimp only
 rw [anyN_or]
 generalize anyN (fun j=>eqS (m.F j).name nm) k=a1
 generalize anyN (fun j=>(m.F j).number == nu) k=a2
 generalize anyN (fun j=>eqS (m.S j) nm) m.nS=a3
 generalize anyN (fun j=>m.N j == nu) m.nN=a4
 generalize named nm=a5
 generalize (!scalarB ty && decide (placeM M n ty < 0))=a6
 generalize decide (nu < 1)=a7
 generalize decide (536870911 < nu)=a8
 generalize (decide (19000≤nu) && decide (nu≤19999))=a9
 have e:decide (1 < manyN op re ma 3)=(op && re || (op && ma || re && ma)):=by cases op <;> cases re <;> cases ma <;> rfl
 rw [e]
 cases a1 <;> cases a2 <;> cases a3 <;> cases a4 <;> cases a5 <;> cases a6 <;> cases a7 <;> cases a8 <;> cases a9 <;> simp
/-- **right** -/
theorem right_any (a:Option Addr) (n c:Nat) (M:Nat→PM) (m:PM) (w:World) (h:PL w a n c M) (hm:m.In w) :
  Calls Tryd.prog 34 #[.slice a n c,m.agg] w fun e w'=>e=.returned (.bool (rightB M n m))∧Below w.heap.size w w':=by
 have H:=Lib.hid h
 have HM:=Lib.hid hm
 have l1:=hm.n.l
 have l2:=hm.n.lc
 have l3:=hm.t.l
 have l4:=hm.t.lc
 have l5:=hm.f.l
 have l6:=hm.f.lc
 obtain ⟨y4,hy4⟩:∃ y,anyN (fun j => !named (m.S j)) m.nS=y:=⟨_,rfl⟩
 obtain ⟨y5,hy5⟩:∃ y,anyN (fun j=>numBad (m.N j)) m.nN=y:=⟨_,rfl⟩
 have C4:=Lib.hid fun wx (hx:Below w.heap.size w wx)=>ContK_any 52 (enters_of Tryd.func52 z0a rfl) (fun j => !named (m.S j)) m.aS m.nS m.cS m.S wx l4 l3 ((HM.out.t.below hx).c) (fun i hi w' _=>(right1_any (m.S i) (by rcases HM.out.t.c with h0|⟨_,_,_,_,hc⟩;omega;exact (hc i hi).2) w').mono fun e w2 ⟨he,hw⟩=>⟨he,by rw [hw];exact Below.refl _ _⟩)
 have C5:=Lib.hid fun wx (hx:Below w.heap.size w wx)=>ContI_any 54 (enters_of Tryd.func54 z0a rfl) (fun j=>numBad (m.N j)) m.aN m.nN m.cN m.N wx (HM.out.n.below hx) (fun i _ w'=>right2_any (m.N i) w')
 rw [hy4] at C4
 rw [hy5] at C5
 have hmm:=@run_makeMap Tryd.prog
 obtain ⟨A,hA⟩:∃ A,A=(decide (50 < m.nF) || (decide (100 < m.nN) || (decide (100 < m.nS) || (y4 || y5)))):=⟨_,rfl⟩
 have HR:=Lib.hid (show rightB M n m=(!A && fieldsB M n m) by unfold rightB;rw [hy4,hy5,hA])
 have HA:=Lib.hid hA
 simp only [maxLen] at l2 l4 l6
 unfold PM.agg
 clear h hm hy4 hy5 hA
 go_enter Tryd.func34,Tryd.ntmps34
 go_upto_region 1 with fail
 have M0:=Lib.hid (mbx_new w m 55)
 have hW0:=below_alloc (Below.refl w.heap.size w) (.cells #[.string m.name,.slice m.aF m.nF m.cF,.slice m.aN m.nN m.cN,.slice m.aS m.nS m.cS] 55)
 generalize w.alloc (.cells #[.string m.name,.slice m.aF m.nF m.cF,.slice m.aN m.nN m.cN,.slice m.aS m.nS m.cS] 55)=w0 at *
 obtain ⟨B,hB⟩:∃ B,B=w.heap.size:=⟨_,rfl⟩
 rw [← hB] at M0 ⊢
 clear hB
 obtain ⟨_,_,_,_⟩:=M0.out.all
 go_cut [37] (fun s wx=>s=.bool A∧Below w0.heap.size w0 wx)
 case first=>
  have hA2:=HA.out
  by_cases d1:50 < m.nF
  ·skip
   exact z11zk3
  ·skip
   by_cases d2:100 < m.nN
   ·skip
    exact z11zk3
   ·skip
    by_cases d3:100 < m.nS
    ·skip
     exact z11zk3
    ·skip
     cases y4 with
     | true=>
      exact z11zk3
     | false=>
      cases y5 with
      | true=>
       exact z11zk3
      | false=>
       have e:A=false:=by rw [hA2];simp [*]
       clear hA2
       subst e
       (try have f1:(50:Int) < (m.nF:Int):=by omega)
       (try have f2:¬ (50:Int) < (m.nF:Int):=by omega)
       (try have f3:(100:Int) < (m.nN:Int):=by omega)
       (try have f4:¬ (100:Int) < (m.nN:Int):=by omega)
       (try have f5:(100:Int) < (m.nS:Int):=by omega)
       (try have f6:¬ (100:Int) < (m.nS:Int):=by omega)
       repeat any_goals (first|(go_at_call 51;with_reducible refine (C4.out _ hW0).mono ?_;rintro e w3 ⟨rfl,hb3⟩;have Mq:=Lib.hid (M0.out.below hb3);obtain ⟨_,_,_,_⟩:=Mq.out.all)|(go_at_call 53;with_reducible refine (C5.out _ (below_trans hW0 hb3)).mono ?_;rintro e w4 ⟨rfl,rfl⟩)|go_skip|go_guarded|go_step|go_upon|(dsimp only []))
       go_meet
       case rel=>exact ⟨rfl,by (first|exact hb3|exact Below.refl _ _)⟩
 case rest=>
  obtain ⟨rfl,hq⟩:=hcut
  obtain ⟨w2,rfl⟩:∃ w2,w2=wc:=⟨_,rfl⟩
  have M2:=Lib.hid (M0.out.below hq)
  have hW2:=below_trans hW0 hq
  obtain ⟨_,_,_,_⟩:=M2.out.all
  cases A with
  | true=>
   repeat any_goals (first|go_skip|go_guarded|go_step|go_upon|(simp only [];done))
   exact bodyPost_ret (v:=.bool false) z0k rfl ⟨by rw [HR.out];rfl,hW2⟩
  | false=>
   go_upto_region 4 with fail
   have hs2:w2.heap.size+1=(w2.alloc (.map #[] 0)).heap.size:=by simp
   have S0:SetsI ((w2.alloc (.map #[] 0)).alloc (.map #[] 0)) w2.heap.size (w2.heap.size+1) 0 (fun i=>(m.F i).name) (fun i=>(m.F i).number):=⟨(World.ownsMap_made _ _ _ _).alloc _,by rw [hs2];exact World.ownsMap_made _ _ _ _,by omega⟩
   have S0:=Lib.hid S0
   have M3:=Lib.hid ((M2.out.below (below_alloc (Below.refl _ _) (.map #[] 0))).below (below_alloc (Below.refl _ _) (.map #[] 0)))
   have hW3:=below_alloc (below_alloc hW2 (.map #[] 0)) (.map #[] 0)
   generalize (w2.alloc (.map #[] 0)).alloc (.map #[] 0)=w3 at *
   obtain ⟨B2,hB2⟩:∃ B,B=w2.heap.size+1:=⟨_,rfl⟩
   obtain ⟨B1,hB1⟩:∃ B,B=w2.heap.size:=⟨_,rfl⟩
   rw [← hB2,← hB1] at S0
   rw [← hB2,← hB1]
   have HB:=Lib.hid (show w.heap.size≤B1∧w.heap.size≤B2∧B≠B1∧B≠B2 by have:=hW2.size;have hl:B < w2.heap.size:=World.block_lt_of_cell? w2 ⟨B,0,none⟩ M2.out.all.1;omega)
   clear hB1 hB2 hs2
   obtain ⟨_,_,_,_⟩:=M3.out.all
   repeat any_goals (first|go_skip|go_guarded|go_step|go_upon|(simp only [];done))
   obtain ⟨aF,haF⟩:∃ x,m.aF=x:=⟨_,rfl⟩
   rw [haF]
   go_loopw [43] (fun i wr=>∃ k:Nat,k≤m.nF∧i=.int .i64 k∧anyN (fldBad M n m) k=false∧SetsI wr B1 B2 k (fun i=>(m.F i).name) (fun i=>(m.F i).number)∧Below w.heap.size w wr∧MBx wr B m) (fun i _=>m.nF - (intOf i).toNat)
   case atStart=>exact ⟨0,Nat.zero_le _,rfl,rfl,S0.out,hW3,M3.out⟩
   case round=>
    obtain ⟨k,hk,rfl,hA5,hS,hW,hM⟩:=hrel
    have H5:=Lib.hid hA5
    have HS:=Lib.hid hS
    have HMr:=Lib.hid hM
    obtain ⟨_,_,_,_⟩:=HMr.out.all
    clear hA5 hS hM
    by_cases hkn:k < m.nF
    ·obtain ⟨b,off,e0,hbl,hf,ho⟩:=f_lit HM.out.f hkn hW
     rw [haF] at e0
     subst e0
     obtain ⟨⟨nm,ty,nu,op,re,ma⟩,hf0⟩:∃ f,m.F k=f:=⟨_,rfl⟩
     have HBD:=Lib.hid (fld_all (M:=M) (n:=n) hf0)
     have HF0:=Lib.hid hf0
     rw [hf0] at hf ho
     obtain ⟨hn1,hn2,hn3,hn4⟩:=ho
     dsimp only at hn1 hn2 hn3 hn4
     have HNU:=Lib.hid (show (Lit.int .i64 nu).wf=true from WalkArith.wf_i64 ⟨hn3,by omega⟩)
     obtain ⟨_,_,_,_,_,_⟩:=hf.all
     have i1:(k:Int) < (m.nF:Int):=by omega
     have i2:(0:Int)≤(k:Int):=by omega
     have i5:(k:Int).toNat=k:=rfl
     go_upto_region 7 with fail
     have F1:=Lib.hid (fbx_new wr nm ty nu op re ma 70)
     have hV1:Below wr.heap.size wr (wr.alloc (.cells #[.string nm,.string ty,.int .i64 nu,.bool op,.bool re,.bool ma] 70)):=below_alloc (Below.refl _ _) _
     generalize wr.alloc (.cells #[.string nm,.string ty,.int .i64 nu,.bool op,.bool re,.bool ma] 70)=w4 at *
     obtain ⟨B4,hB4⟩:∃ B,B=wr.heap.size:=⟨_,rfl⟩
     rw [← hB4] at F1 ⊢
     have HB4:=Lib.hid hB4
     clear hB4
     obtain ⟨_,_,_,_,_,_⟩:=F1.out.all
     repeat any_goals (first|go_skip|go_guarded|go_step|go_upon|(simp only [];done))
     have F5:=Lib.hid (F1.out.below (below_alloc (Below.refl w4.heap.size w4) (.cells #[.bool op,.bool re,.bool ma] 4)))
     have hV5:=below_alloc hV1 (.cells #[.bool op,.bool re,.bool ma] 4)
     have c0:(w4.alloc (.cells #[.bool op,.bool re,.bool ma] 4)).cell? ⟨w4.heap.size,0,none⟩=some (.bool op):=by simp [go_sem]
     have c1:(w4.alloc (.cells #[.bool op,.bool re,.bool ma] 4)).cell? ⟨w4.heap.size,1,none⟩=some (.bool re):=by simp [go_sem]
     have c2:(w4.alloc (.cells #[.bool op,.bool re,.bool ma] 4)).cell? ⟨w4.heap.size,2,none⟩=some (.bool ma):=by simp [go_sem]
     generalize w4.alloc (.cells #[.bool op,.bool re,.bool ma] 4)=w5 at *
     go_loopw [9,55] (fun v i wq=>∃ j:Nat,j≤3∧i=.int .i64 j∧v=.int .i64 (manyN op re ma j:Nat)∧w5=wq) (fun _ i _=>3 - (intOf i).toNat)
     case atStart=>exact ⟨0,Nat.zero_le _,rfl,rfl,rfl⟩
     case round=>
      obtain ⟨j,hj,rfl,rfl,rfl⟩:=hrel
      by_cases hj3:j < 3
      ·rcases (show j=0∨j=1∨j=2 by omega) with rfl|rfl|rfl
       ·cases op
        all_goals (
         (repeat any_goals (first|go_skip|go_guarded|go_step|go_upon|(simp only [];done)))
         go_roundw)
        all_goals (first|exact ⟨1,by omega,rfl,rfl,by trivial⟩|(refine ⟨1,by omega,rfl,?_,by trivial⟩;simp [manyN,b2n,wrap64];done)|(simp [intOf];done)|(simp [intOf];omega))
       ·cases op <;> cases re
        all_goals (
         (repeat any_goals (first|go_skip|go_guarded|go_step|go_upon|(simp only [];done)))
         go_roundw)
        all_goals (first|exact ⟨2,by omega,rfl,rfl,by trivial⟩|(refine ⟨2,by omega,rfl,?_,by trivial⟩;simp [manyN,b2n,wrap64];done)|(simp [intOf];done)|(simp [intOf];omega))
       ·cases op <;> cases re <;> cases ma
        all_goals (
         (repeat any_goals (first|go_skip|go_guarded|go_step|go_upon|(simp only [];done)))
         go_roundw)
        all_goals (first|exact ⟨3,by omega,rfl,rfl,by trivial⟩|(refine ⟨3,by omega,rfl,?_,by trivial⟩;simp [manyN,b2n,wrap64];done)|(simp [intOf];done)|(simp [intOf];omega))
      ·obtain rfl:j=3:=by omega
       obtain ⟨mc,hmc⟩:∃ x,x=manyN op re ma 3:=⟨_,rfl⟩
       rw [← hmc]
       obtain ⟨x1,hx1⟩:∃ x,named nm=x:=⟨_,rfl⟩
       obtain ⟨x2,hx2⟩:∃ x,scalarB ty=x:=⟨_,rfl⟩
       obtain ⟨z3,hz3⟩:∃ z,placeM M n ty=z:=⟨_,rfl⟩
       obtain ⟨x4,hx4⟩:∃ x,anyN (fun j=>m.N j == nu) m.nN=x:=⟨_,rfl⟩
       obtain ⟨x5,hx5⟩:∃ x,anyN (fun j=>eqS (m.S j) nm) m.nS=x:=⟨_,rfl⟩
       obtain ⟨u1,hu1⟩:∃ x,anyN (fun j=>eqS (m.F j).name nm) k=x:=⟨_,rfl⟩
       obtain ⟨u2,hu2⟩:∃ x,anyN (fun j=>(m.F j).number == nu) k=x:=⟨_,rfl⟩
       have hbd:=HBD.out
       rw [← hmc,hx1,hx2,hz3,hx4,hx5,hu1,hu2] at hbd
       have HBD2:=Lib.hid hbd
       have hW5:=below_trans hW hV5
       have C1:=Lib.hid fun wx=>Named_any nm hn1 wx
       have C2:=Lib.hid fun wx=>PScalar_any ty wx
       have C3:=Lib.hid fun wx (hx:Below w.heap.size w wx)=>PPlace_any a n c M ty wx (H.out.below hx)
       have D4:=Lib.hid fun wx (hx:Below w.heap.size w wx)=>PContI_any m.aN m.nN m.cN m.N nu wx (HM.out.n.below hx)
       have D5:=Lib.hid fun wx (hx:Below w.heap.size w wx)=>PContS_any m.aS m.nS m.cS m.S nm wx (HM.out.t.below hx)
       rw [hx1] at C1
       rw [hx2] at C2
       rw [hz3] at C3
       rw [hx4] at D4
       rw [hx5] at D5
       have L1:=Lib.hid fun wx (hb:Below w5.heap.size w5 wx)=>(by
        have h:=((HS.out.below hV5).below hb).lookS nm hn1
        rwa [show anyN (fun j=>eqS ((fun i=>(m.F i).name) j) nm) k=u1 from hu1] at h:(Instr.lookup 88 (.map (some B1)) (.string nm) false).run Tryd.prog wx=.ok (.bool u1) wx)
       have L2:=Lib.hid fun wx (hb:Below w5.heap.size w5 wx)=>(by
        have h:=((HS.out.below hV5).below hb).lookI nu HNU.out
        rwa [show anyN (fun j=>(fun i=>(m.F i).number) j == nu) k=u2 from hu2] at h:(Instr.lookup 89 (.map (some B2)) (.int .i64 nu) false).run Tryd.prog wx=.ok (.bool u2) wx)
       have PU:=Lib.hid fun wx (hb:Below w5.heap.size w5 wx)=>((HS.out.below hV5).below hb).put (W:=wx) z0o (show (fun i=>(m.F i).name) k=nm by show (m.F k).name=nm;rw [HF0.out]) (show (fun i=>(m.F i).number) k=nu by show (m.F k).number=nu;rw [HF0.out]) hn1 HNU.out
       have hl1:=L1.out _ (Below.refl _ _)
       have hl2:=L2.out _ (Below.refl _ _)
       have M5:=Lib.hid (HMr.out.below hV5)
       have hq5:=Below.refl w5.heap.size w5
       have HN1:=Lib.hid hn1
       have HB6:=Lib.hid (show B4≠B1∧B4≠B2 by have h1:=HS.out.s.lt;have h2:=HS.out.n.lt;have h3:=HB4.out;omega)
       clear hx1 hx2 hz3 hx4 hx5 hu1 hu2 hmc hbd hn1 hn2 c0 c1 c2 hf0 hf
       obtain ⟨_,_,_,_,_,_⟩:=F5.out.all
       obtain ⟨_,_,_,_⟩:=M5.out.all
       by_cases cm:1 < mc
       ·skip
        exact z11zk1
       ·skip
        cases x1 with
        | true=>
         cases u1 with
         | true=>
          exact z11zk1
         | false=>
          cases x5 with
          | true=>
           exact z11zk1
          | false=>
           cases x2 with
           | true=>
            by_cases c1:nu < 1
            ·skip
             exact z11zk1
            ·skip
             by_cases c2:536870911 < nu
             ·skip
              exact z11zk1
             ·skip
              by_cases c3:19000≤nu
              ·skip
               by_cases c4:nu≤19999
               ·skip
                exact z11zk1
               ·skip
                cases u2 with
                | true=>
                 exact z11zk1
                | false=>
                 cases x4 with
                 | true=>
                  exact z11zk1
                 | false=>
                  exact z11zk2
              ·skip
               cases u2 with
               | true=>
                exact z11zk1
               | false=>
                cases x4 with
                | true=>
                 exact z11zk1
                | false=>
                 exact z11zk2
           | false=>
            by_cases cz:z3 < 0
            ·skip
             exact z11zk1
            ·skip
             by_cases c1:nu < 1
             ·skip
              exact z11zk1
             ·skip
              by_cases c2:536870911 < nu
              ·skip
               exact z11zk1
              ·skip
               by_cases c3:19000≤nu
               ·skip
                by_cases c4:nu≤19999
                ·skip
                 exact z11zk1
                ·skip
                 cases u2 with
                 | true=>
                  exact z11zk1
                 | false=>
                  cases x4 with
                  | true=>
                   exact z11zk1
                  | false=>
                   exact z11zk2
               ·skip
                cases u2 with
                | true=>
                 exact z11zk1
                | false=>
                 cases x4 with
                 | true=>
                  exact z11zk1
                 | false=>
                  exact z11zk2
        | false=>
         exact z11zk1
    ·obtain rfl:k=m.nF:=by omega
     have i1:¬ (m.nF:Int) < (m.nF:Int):=by omega
     repeat any_goals (first|go_skip|go_guarded|go_step|go_upon|(simp only [];done))
     exact bodyPost_ret (v:=.bool true) z0k rfl ⟨by rw [HR.out];unfold fieldsB;rw [H5.out];rfl,hW⟩
end Go.Proofs.YtfondldmmcmloaaDoor
