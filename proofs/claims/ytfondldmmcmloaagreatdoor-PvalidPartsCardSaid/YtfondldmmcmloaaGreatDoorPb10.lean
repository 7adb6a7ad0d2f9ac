/- VMay, VNum, VIn, VTold, Counts, VOpen, Frame6. -/
import Derived.WalkSmall
import Derived.SliceStrings
import Derived.Laws.IdiomArrays
import Derived.ProofKit
import Derived.OpenShut
import Derived.Deep.DeepHandedRow
import Derived.Lib.LaidTab
import Derived.Lib.LaidU8T
import Derived.Carry
import Derived.ChangeOld
import Derived.Test.YtfondldmmcmloaaGreatDoorCards
import Derived.Test.YtfondldmmcmloaaGreatDoorTie
import Derived.Test.YtfondldmmcmloaaGreatDoorPb8
import Derived.Test.YtfondldmmcmloaaGreatDoorPb9
set_option maxRecDepth 1000000
set_option maxHeartbeats 8000000
namespace Go.Proofs.YtfondldmmcmloaaGreatDoor
open Go Go.RowKit
theorem z10zk1 {p:Prop} (h:p:=by
 obtain ⟨h0,h1,h2,h3,h4,h5,h6,h7,h8,h9⟩:=h.all
 exact ⟨keep_cell hb h0,keep_cell hb h1,keep_cell hb h2,keep_cell hb h3,keep_cell hb h4,keep_cell hb h5,keep_cell hb h6,keep_cell hb h7,keep_cell hb h8,keep_cell hb h9⟩):p:=h
end Go.Proofs.YtfondldmmcmloaaGreatDoor
namespace Go.Proofs.YtfondldmmcmloaaGreatDoor
open Go.RowKit
theorem eqSc_z {k:Int} {s s':Bool} {V b b':Nat} {t t':ByteArray} (hV:V < 2 ^ 256):eqSc k s (lm V 0:Nat) (lm V 1:Nat) (lm V 2:Nat) (lm V 3:Nat) (b:Nat) t k s' 0 0 0 0 (b':Nat) t'=decide (s=s'∧V=0∧b=b'∧t=t'):=by
 have h:=eqSc_lm (k:=k) (s:=s) (s':=s') (V:=V) (U:=0) (b:=b) (b':=b') (t:=t) (t':=t') hV z0e
 rw [lm_zero,lm_zero,lm_zero,lm_zero] at h
 exact h
theorem and_one {b:Nat} (h:b < 18446744073709551616):Go.bits .and .u64 (b:Int) 1=((b % 2:Nat):Int):=by
 rw [and_one_u64 (b:Int) z0c z0c]
 omega
theorem Sound_any:∀ (T:VT) (w:World),T.In w→U8T w→Tab w→Calls Tryz.prog 49 #[T.agg] w fun e w'=>e=.returned (.bool T.right)∧Below w.heap.size w w':=by
 intro T
 induction T with
 | nil=>exact fun w h=>h.elim
 | mk kind neg V bits text aL nL cL kids aK nK cK keys ih=>
  intro w hin hU hT
  obtain ⟨o,hL,hk,hKy⟩:=hin
  simp only [VT.agg,VT.cells]
  obtain ⟨z,hz⟩:∃ z,z=anyN (fun i => !(kids i).right) nL:=⟨_,rfl⟩
  have hR:(VT.mk kind neg V bits text aL nL cL kids aK nK cK keys).right=(midB kind neg V bits text nL nK keys && eqB kind neg V bits text && !z):=by rw [hz];rfl
  rw [hR]
  have CC:Hid (∀ wr:World,Below w.heap.size w wr→Calls Tryz.prog 75 #[.slice aL nL cL,.func (.func 80) #[] #[]] wr fun e w'=>e=.returned (.bool z)∧Below wr.heap.size wr w'):=Lib.hid fun wr hb=>by
   rw [hz]
   refine ContV_any _ eg_sound1 _ aL nL cL kids wr o.lc o.l ?_ (fun i hi=>(hk i hi).below hb) fun i hi w' hb'=>sound1_any _ _ _ (((hk i hi).below hb).below hb') fun w2 hb2=>ih i w2 ((((hk i hi).below hb).below hb').below hb2) (Utf8Tabs_below (Utf8Tabs_below (Utf8Tabs_below hU hb) hb') hb2) (((hT.below hb).below hb').below hb2)
   rcases hL with h|⟨b,off,h1,h2,h3⟩
   ·exact .inl h
   ·exact .inr ⟨b,off,h1,Nat.lt_of_lt_of_le h2 hb.size,fun i hi j hj=>by rw [hb.cell (p:=⟨b,off+i * 10+j,none⟩) h2];exact h3 i hi j hj⟩
  clear ih hk hR hz hL
  have hV:=o.v
  by_cases k7:kind=7
  ·subst k7
   refine sound_7 neg V bits text aL nL cL aK nK cK w _ z _ o.n (Lib.hid ?_) (eqSc_z (b':=0) hV) CC
   simp [midB,eqB,bareNeg,bareV,bareB,bareT]
  by_cases k8:kind=8
  ·subst k8
   refine sound_8 (riseB keys nK) neg V bits text aL nL cL aK nK cK w _ z _ o.l (Lib.hid ?_) (eqSc_z (b':=0) hV) (Lib.hid fun wr hb=>rise_any aK nK cK keys wr (Utf8Tabs_below hU hb) o.nc o.n ?_) CC
   ·simp [midB,eqB,bareNeg,bareV,bareB,bareT]
   ·rcases hKy with h|⟨b,off,h1,h2,h3⟩
    ·exact .inl h
    ·exact .inr ⟨b,off,h1,Nat.lt_of_lt_of_le h2 hb.size,fun i hi=>⟨by rw [hb.cell (p:=⟨b,off+i,none⟩) h2];exact (h3 i hi).1,(h3 i hi).2⟩⟩
  have hmid:∀ x:Bool,nL=0∧nK=0→midB kind neg V bits text nL nK keys=(decide (kind=1) || decide (kind=2) || decide (kind=3) && mayI neg V || decide (kind=4) && mayF bits || decide (kind=5) && validS text || decide (kind=6)):=fun _ h=>by
   unfold midB
   rw [if_neg k7,if_neg k8,h.1,h.2]
   simp
  by_cases h0:nL=0∧nK=0
  ·have hm:=hmid true h0
   obtain ⟨rfl,rfl⟩:=h0
   rw [hm]
   clear hm hmid
   by_cases k1:kind=1
   ·subst k1
    refine sound_1 neg V bits text aL cL aK cK w _ z _ (Lib.hid ?_) (eqSc_z (b':=0) hV) CC
    simp [eqB,bareNeg,bareV,bareB,bareT]
   by_cases k2:kind=2
   ·subst k2
    refine sound_2 neg V bits text aL cL aK cK w _ z _ _ (Lib.hid ?_) (eqSc_z (b':=bits % 2) hV) (and_one o.b) CC
    simp [eqB,bareNeg,bareV,bareB,bareT]
   by_cases k3:kind=3
   ·subst k3
    refine sound_3 (mayI neg V) neg V bits text aL cL aK cK w _ z _ (Lib.hid ?_) (eqSc_lm (b':=0) hV hV) (Lib.hid fun wr _=>May_any neg V hV wr) CC
    simp [eqB,bareNeg,bareV,bareB,bareT]
   by_cases k4:kind=4
   ·subst k4
    refine sound_4 (mayF bits) neg V bits text aL cL aK cK w _ z _ (Lib.hid ?_) (eqSc_z (b':=bits) hV) (Lib.hid fun wr hb=>MayF_any bits o.b wr (hT.below hb)) CC
    simp [eqB,bareNeg,bareV,bareB,bareT]
   by_cases k5:kind=5
   ·subst k5
    refine sound_5 (validS text) neg V bits text aL cL aK cK w _ z _ (Lib.hid ?_) (eqSc_z (b':=0) hV) (Lib.hid fun wr hb=>PValid_any text wr o.t (Utf8Tabs_below hU hb)) CC
    simp [eqB,bareNeg,bareV,bareB,bareT]
   by_cases k6:kind=6
   ·subst k6
    refine sound_6 neg V bits text aL cL aK cK w _ z _ (Lib.hid ?_) (eqSc_z (b':=0) hV) CC
    simp [eqB,bareNeg,bareV,bareB,bareT]
   have e:(decide (kind=1) || decide (kind=2) || decide (kind=3) && mayI neg V || decide (kind=4) && mayF bits || decide (kind=5) && validS text || decide (kind=6))=false:=by simp [k1,k2,k3,k4,k5,k6]
   rw [e]
   exact sound_else kind neg V bits text aL cL aK cK w k1 k2 k3 k4 k5 k6 k7 k8
  ·have e:midB kind neg V bits text nL nK keys=false:=by
    unfold midB
    rw [if_neg k7,if_neg k8]
    have:(nL == 0 && nK == 0)=false:=by
     rw [← Bool.not_eq_true]
     simpa using h0
    rw [this,Bool.false_and]
   rw [e]
   exact sound_no kind neg V bits text aL nL cL aK nK cK w o.l (by simpa using k7) (by simpa using k8) z0c
def VT.may (T:VT):Int:=if 16 < T.depth then 4 else if 10000 < T.nodes∨T.long=true then 8 else if T.right=true then 0 else 1
structure MayC (w:World) (v:Value) (D N:Nat) (l r:Bool):Prop where
 c1:∀ w':World,Below w.heap.size w w'→Calls Tryz.prog 46 #[v] w' fun e w2=>e=.returned (.int .i64 (D:Nat))∧Below w'.heap.size w' w2
 c2:∀ w':World,Below w.heap.size w w'→Calls Tryz.prog 47 #[v] w' fun e w2=>e=.returned (.int .i64 (N:Nat))∧Below w'.heap.size w' w2
 c3:∀ w':World,Below w.heap.size w w'→Calls Tryz.prog 48 #[v] w' fun e w2=>e=.returned (.bool l)∧Below w'.heap.size w' w2
 c4:l=false→∀ w':World,Below w.heap.size w w'→Calls Tryz.prog 49 #[v] w' fun e w2=>e=.returned (.bool r)∧Below w'.heap.size w' w2
theorem May_walk (kind:Int) (neg:Bool) (V bits:Nat) (text:ByteArray) (aL:Option Addr) (nL cL:Nat) (aK:Option Addr) (nK cK:Nat) (D N:Nat) (l r:Bool) (w:World) (hD:D < 4611686018427387904) (hN:N < 4611686018427387904) (C:Hid (MayC w (.agg #[.int .i64 kind,.bool neg,.int .u64 (lm V 0:Nat),.int .u64 (lm V 1:Nat),.int .u64 (lm V 2:Nat),.int .u64 (lm V 3:Nat),.int .u64 (bits:Nat),.string text,.slice aL nL cL,.slice aK nK cK]) D N l r)) :
  Calls Tryz.prog 21 #[.agg #[.int .i64 kind,.bool neg,.int .u64 (lm V 0:Nat),.int .u64 (lm V 1:Nat),.int .u64 (lm V 2:Nat),.int .u64 (lm V 3:Nat),.int .u64 (bits:Nat),.string text,.slice aL nL cL,.slice aK nK cK]] w fun e w'=>e=.returned (.int .i64 (if 16 < D then 4 else if 10000 < N∨l=true then 8 else if r=true then 0 else 1))∧Below w.heap.size w w':=by
 have V0:=Lib.hid (show VBx (w.alloc (.cells #[.int .i64 kind,.bool neg,.int .u64 (lm V 0:Nat),.int .u64 (lm V 1:Nat),.int .u64 (lm V 2:Nat),.int .u64 (lm V 3:Nat),.int .u64 (bits:Nat),.string text,.slice aL nL cL,.slice aK nK cK] 31)) w.heap.size kind neg V bits text aL nL cL aK nK cK from ⟨by simp [go_sem]⟩)
 by_cases h1:16 < D
 ·rw [if_pos h1]
  have h1i:(16:Int) < (D:Int):=by omega
  go_enter Tryz.func21,Tryz.ntmps21
  repeat any_goals (first|(go_at_call 46;with_reducible refine (C.out.c1 _ zb2).mono ?_;rintro e w1 ⟨rfl,hb1⟩;(first|have V1:=Lib.hid (V0.out.below hb1)|have V1:=Lib.hid (V0.out.step hb1));obtain ⟨_,_,_,_,_,_,_,_,_,_⟩:=V1.out.all)|go_skip|go_guarded|go_step|go_upon|(dsimp only []))
  exact bodyPost_ret (v:=.int .i64 4) (by simp [results,Tryz.results21,go_sem]) rfl ⟨rfl,zb2⟩
 ·rw [if_neg h1]
  have h1i:¬ (16:Int) < (D:Int):=by omega
  by_cases h2:10000 < N
  ·rw [if_pos (.inl h2)]
   have h2i:(10000:Int) < (N:Int):=by omega
   go_enter Tryz.func21,Tryz.ntmps21
   repeat any_goals (first|(go_at_call 46;with_reducible refine (C.out.c1 _ zb2).mono ?_;rintro e w1 ⟨rfl,hb1⟩;(first|have V1:=Lib.hid (V0.out.below hb1)|have V1:=Lib.hid (V0.out.step hb1));obtain ⟨_,_,_,_,_,_,_,_,_,_⟩:=V1.out.all)|(go_at_call 47;with_reducible refine (C.out.c2 _ zb2).mono ?_;rintro e w2 ⟨rfl,hb2⟩;(first|have V2:=Lib.hid (V1.out.below hb2)|have V2:=Lib.hid (V1.out.step hb2));obtain ⟨_,_,_,_,_,_,_,_,_,_⟩:=V2.out.all)|go_skip|go_guarded|go_step|go_upon|(dsimp only []))
   exact bodyPost_ret (v:=.int .i64 8) (by simp [results,Tryz.results21,go_sem]) rfl ⟨rfl,zb2⟩
  ·have h2i:¬ (10000:Int) < (N:Int):=by omega
   cases l with
   | true=>
    rw [if_pos (.inr rfl)]
    go_enter Tryz.func21,Tryz.ntmps21
    repeat any_goals (first|(go_at_call 46;with_reducible refine (C.out.c1 _ zb2).mono ?_;rintro e w1 ⟨rfl,hb1⟩;(first|have V1:=Lib.hid (V0.out.below hb1)|have V1:=Lib.hid (V0.out.step hb1));obtain ⟨_,_,_,_,_,_,_,_,_,_⟩:=V1.out.all)|(go_at_call 47;with_reducible refine (C.out.c2 _ zb2).mono ?_;rintro e w2 ⟨rfl,hb2⟩;(first|have V2:=Lib.hid (V1.out.below hb2)|have V2:=Lib.hid (V1.out.step hb2));obtain ⟨_,_,_,_,_,_,_,_,_,_⟩:=V2.out.all)|(go_at_call 48;with_reducible refine (C.out.c3 _ zb2).mono ?_;rintro e w3 ⟨rfl,hb3⟩;(first|have V3:=Lib.hid (V2.out.below hb3)|have V3:=Lib.hid (V2.out.step hb3));obtain ⟨_,_,_,_,_,_,_,_,_,_⟩:=V3.out.all)|go_skip|go_guarded|go_step|go_upon|(dsimp only []))
    exact bodyPost_ret (v:=.int .i64 8) (by simp [results,Tryz.results21,go_sem]) rfl ⟨rfl,zb2⟩
   | false=>
    rw [if_neg (fun h=>h.elim h2 Bool.false_ne_true)]
    cases r with
    | true=>
     rw [if_pos rfl]
     go_enter Tryz.func21,Tryz.ntmps21
     repeat any_goals (first|(go_at_call 46;with_reducible refine (C.out.c1 _ zb2).mono ?_;rintro e w1 ⟨rfl,hb1⟩;(first|have V1:=Lib.hid (V0.out.below hb1)|have V1:=Lib.hid (V0.out.step hb1));obtain ⟨_,_,_,_,_,_,_,_,_,_⟩:=V1.out.all)|(go_at_call 47;with_reducible refine (C.out.c2 _ zb2).mono ?_;rintro e w2 ⟨rfl,hb2⟩;(first|have V2:=Lib.hid (V1.out.below hb2)|have V2:=Lib.hid (V1.out.step hb2));obtain ⟨_,_,_,_,_,_,_,_,_,_⟩:=V2.out.all)|(go_at_call 48;with_reducible refine (C.out.c3 _ zb2).mono ?_;rintro e w3 ⟨rfl,hb3⟩;(first|have V3:=Lib.hid (V2.out.below hb3)|have V3:=Lib.hid (V2.out.step hb3));obtain ⟨_,_,_,_,_,_,_,_,_,_⟩:=V3.out.all)|(go_at_call 49;refine (C.out.c4 rfl _ zb2).mono ?_;rintro e w4 ⟨rfl,hb4⟩)|go_skip|go_guarded|go_step|go_upon|(dsimp only []))
     exact bodyPost_ret (v:=.int .i64 0) (by simp [results,Tryz.results21,go_sem]) rfl ⟨rfl,zb2⟩
    | false=>
     rw [if_neg Bool.false_ne_true]
     go_enter Tryz.func21,Tryz.ntmps21
     repeat any_goals (first|(go_at_call 46;with_reducible refine (C.out.c1 _ zb2).mono ?_;rintro e w1 ⟨rfl,hb1⟩;(first|have V1:=Lib.hid (V0.out.below hb1)|have V1:=Lib.hid (V0.out.step hb1));obtain ⟨_,_,_,_,_,_,_,_,_,_⟩:=V1.out.all)|(go_at_call 47;with_reducible refine (C.out.c2 _ zb2).mono ?_;rintro e w2 ⟨rfl,hb2⟩;(first|have V2:=Lib.hid (V1.out.below hb2)|have V2:=Lib.hid (V1.out.step hb2));obtain ⟨_,_,_,_,_,_,_,_,_,_⟩:=V2.out.all)|(go_at_call 48;with_reducible refine (C.out.c3 _ zb2).mono ?_;rintro e w3 ⟨rfl,hb3⟩;(first|have V3:=Lib.hid (V2.out.below hb3)|have V3:=Lib.hid (V2.out.step hb3));obtain ⟨_,_,_,_,_,_,_,_,_,_⟩:=V3.out.all)|(go_at_call 49;refine (C.out.c4 rfl _ zb2).mono ?_;rintro e w4 ⟨rfl,hb4⟩)|go_skip|go_guarded|go_step|go_upon|(dsimp only []))
     exact bodyPost_ret (v:=.int .i64 1) (by simp [results,Tryz.results21,go_sem]) rfl ⟨rfl,zb2⟩
theorem MayV_any (T:VT) (w:World) (hin:T.In w) (hU:U8T w) (hT:Tab w) (hN:T.nodes < 4611686018427387904) :
  Calls Tryz.prog 21 #[T.agg] w fun e w'=>e=.returned (.int .i64 T.may)∧Below w.heap.size w w':=by
 have C:Hid (MayC w T.agg T.depth T.nodes T.long T.right):=Lib.hid ⟨fun w' hb=>Depth_any T w' (hin.below hb) hN,fun w' hb=>Nodes_any T w' (hin.below hb) hN,fun w' hb=>Long_any T w' (hin.below hb),fun _ w' hb=>Sound_any T w' (hin.below hb) (Utf8Tabs_below hU hb) (hT.below hb)⟩
 have hD:=T.depth_nodes
 unfold VT.may
 cases T with
 | nil=>exact hin.elim
 | mk kind neg V bits text aL nL cL kids aK nK cK keys=>exact May_walk kind neg V bits text aL nL cL aK nK cK _ _ _ _ w z0c hN C
structure ZV (W':World) (B:Nat):Prop where
 all:(W'.cell? ⟨B,0,none⟩=some (.int .i64 0)∧W'.cell? ⟨B,1,none⟩=some (.bool false)∧W'.cell? ⟨B,2,none⟩=some (.int .u64 0)∧W'.cell? ⟨B,3,none⟩=some (.int .u64 0)∧W'.cell? ⟨B,4,none⟩=some (.int .u64 0)∧W'.cell? ⟨B,5,none⟩=some (.int .u64 0)∧W'.cell? ⟨B,6,none⟩=some (.int .u64 0)∧W'.cell? ⟨B,7,none⟩=some (.string ⟨#[]⟩)∧W'.cell? ⟨B,8,none⟩=some (.slice none 0 0)∧W'.cell? ⟨B,9,none⟩=some (.slice none 0 0))∧(W'.frozen? ⟨B,0,none⟩=false∧W'.frozen? ⟨B,1,none⟩=false∧W'.frozen? ⟨B,2,none⟩=false∧W'.frozen? ⟨B,3,none⟩=false∧W'.frozen? ⟨B,4,none⟩=false∧W'.frozen? ⟨B,5,none⟩=false∧W'.frozen? ⟨B,6,none⟩=false∧W'.frozen? ⟨B,7,none⟩=false∧W'.frozen? ⟨B,8,none⟩=false∧W'.frozen? ⟨B,9,none⟩=false)∧B < W'.heap.size
theorem ZV.below {B:Nat} {w1 w2:World} (h:ZV w1 B) (hb:Below w1.heap.size w1 w2):ZV w2 B:=by
 obtain ⟨⟨a0,a1,a2,a3,a4,a5,a6,a7,a8,a9⟩,⟨b0,b1,b2,b3,b4,b5,b6,b7,b8,b9⟩,l⟩:=h.all
 have f:∀ i,w2.frozen? ⟨B,i,none⟩=w1.frozen? ⟨B,i,none⟩:=fun i=>hb.frozen (p:=⟨B,i,none⟩) l
 exact ⟨⟨keep_cell hb a0,keep_cell hb a1,keep_cell hb a2,keep_cell hb a3,keep_cell hb a4,keep_cell hb a5,keep_cell hb a6,keep_cell hb a7,keep_cell hb a8,keep_cell hb a9⟩,
  ⟨(f 0).trans b0,(f 1).trans b1,(f 2).trans b2,(f 3).trans b3,(f 4).trans b4,(f 5).trans b5,(f 6).trans b6,(f 7).trans b7,(f 8).trans b8,(f 9).trans b9⟩,Nat.lt_of_lt_of_le l hb.size⟩
structure VB1 (W':World) (B:Nat):Prop where
 all:W'.cell? ⟨B,0,none⟩=some (.int .i64 3)∧W'.cell? ⟨B,1,none⟩=some (.bool false)∧W'.cell? ⟨B,2,none⟩=some (.int .u64 1)∧W'.cell? ⟨B,3,none⟩=some (.int .u64 0)∧W'.cell? ⟨B,4,none⟩=some (.int .u64 0)∧W'.cell? ⟨B,5,none⟩=some (.int .u64 0)∧W'.cell? ⟨B,6,none⟩=some (.int .u64 0)∧W'.cell? ⟨B,7,none⟩=some (.string ⟨#[]⟩)∧W'.cell? ⟨B,8,none⟩=some (.slice none 0 0)∧W'.cell? ⟨B,9,none⟩=some (.slice none 0 0)
theorem VB1.below {B:Nat} {w1 w2:World} (h:VB1 w1 B) (hb:Below w1.heap.size w1 w2):VB1 w2 B:=by
 exact z10zk1
theorem Few_walk (kind:Int) (neg:Bool) (V bits:Nat) (text:ByteArray) (aL:Option Addr) (nL cL:Nat) (aK:Option Addr) (nK cK:Nat) (w:World) (x:Nat)
  (C:Hid (∀ wr:World,Below w.heap.size w wr→Calls Tryz.prog 16 #[.agg #[.int .i64 kind,.bool neg,.int .u64 (lm V 0:Nat),.int .u64 (lm V 1:Nat),.int .u64 (lm V 2:Nat),.int .u64 (lm V 3:Nat),.int .u64 (bits:Nat),.string text,.slice aL nL cL,.slice aK nK cK],.int .i64 40] wr fun e w'=>e=.returned (.int .i64 (x:Nat))∧Below wr.heap.size wr w')) :
  Calls Tryz.prog 7 #[.agg #[.int .i64 kind,.bool neg,.int .u64 (lm V 0:Nat),.int .u64 (lm V 1:Nat),.int .u64 (lm V 2:Nat),.int .u64 (lm V 3:Nat),.int .u64 (bits:Nat),.string text,.slice aL nL cL,.slice aK nK cK]] w fun e w'=>e=.returned (.bool (decide (x≤400)))∧Below w.heap.size w w':=by
 by_cases h:x≤400
 ·rw [decide_eq_true h]
  have hi:(x:Int)≤400:=by omega
  go_enter Tryz.func7,Tryz.ntmps7
  repeat any_goals (first|(go_at_call 16;refine (C.out _ zb2).mono ?_;rintro e w1 ⟨rfl,hb1⟩)|go_skip|go_guarded|go_step|go_upon|(dsimp only []))
  exact bodyPost_ret (v:=.bool true) (by simp [results,Tryz.results7,go_sem]) rfl ⟨rfl,zb2⟩
 ·rw [decide_eq_false h]
  have hi:¬ (x:Int)≤400:=by omega
  go_enter Tryz.func7,Tryz.ntmps7
  repeat any_goals (first|(go_at_call 16;refine (C.out _ zb2).mono ?_;rintro e w1 ⟨rfl,hb1⟩)|go_skip|go_guarded|go_step|go_upon|(dsimp only []))
  exact bodyPost_ret (v:=.bool false) (by simp [results,Tryz.results7,go_sem]) rfl ⟨rfl,zb2⟩
theorem Few_any (T:VT) (w:World) (hin:T.In w):Calls Tryz.prog 7 #[T.agg] w fun e w'=>e=.returned (.bool (decide (T.few 40≤400)))∧Below w.heap.size w w':=by
 have C:Hid (∀ wr:World,Below w.heap.size w wr→Calls Tryz.prog 16 #[T.agg,.int .i64 40] wr fun e w'=>e=.returned (.int .i64 (T.few 40:Nat))∧Below wr.heap.size wr w'):=Lib.hid fun wr hb=>few_any T wr 40 (hin.below hb) z0e
 generalize T.few 40=x at *
 cases T with
 | nil=>exact hin.elim
 | mk kind neg V bits text aL nL cL kids aK nK cK keys=>exact Few_walk kind neg V bits text aL nL cL aK nK cK w x C
structure KBx (w':World) (B o:Nat) (kind:Int) (neg:Bool) (V bits:Nat) (text:ByteArray) (aL:Option Addr) (nL cL:Nat) (aK:Option Addr) (nK cK:Nat):Prop where
 all:w'.cell? ⟨B,o,none⟩=some (.int .i64 kind)∧w'.cell? ⟨B,o+1,none⟩=some (.bool neg)∧w'.cell? ⟨B,o+2,none⟩=some (.int .u64 (lm V 0:Nat))∧w'.cell? ⟨B,o+3,none⟩=some (.int .u64 (lm V 1:Nat))∧w'.cell? ⟨B,o+4,none⟩=some (.int .u64 (lm V 2:Nat)) ∧
  w'.cell? ⟨B,o+5,none⟩=some (.int .u64 (lm V 3:Nat))∧w'.cell? ⟨B,o+6,none⟩=some (.int .u64 (bits:Nat))∧w'.cell? ⟨B,o+7,none⟩=some (.string text)∧w'.cell? ⟨B,o+8,none⟩=some (.slice aL nL cL)∧w'.cell? ⟨B,o+9,none⟩=some (.slice aK nK cK)
theorem KBx.below {w1 w2:World} {B o:Nat} {kind:Int} {neg:Bool} {V bits:Nat} {text:ByteArray} {aL:Option Addr} {nL cL:Nat} {aK:Option Addr} {nK cK:Nat} (h:KBx w1 B o kind neg V bits text aL nL cL aK nK cK) (hb:Below w1.heap.size w1 w2):KBx w2 B o kind neg V bits text aL nL cL aK nK cK:=by
 exact z10zk1
structure RBx (w':World) (B:Nat) (a0 a1 a2 a3 a4 a5 a6 a7 a8 a9:Value):Prop where
 all:w'.cell? ⟨B,0,none⟩=some a0∧w'.cell? ⟨B,1,none⟩=some a1∧w'.cell? ⟨B,2,none⟩=some a2∧w'.cell? ⟨B,3,none⟩=some a3∧w'.cell? ⟨B,4,none⟩=some a4∧w'.cell? ⟨B,5,none⟩=some a5∧w'.cell? ⟨B,6,none⟩=some a6∧w'.cell? ⟨B,7,none⟩=some a7∧w'.cell? ⟨B,8,none⟩=some a8∧w'.cell? ⟨B,9,none⟩=some a9
theorem RBx.below {w1 w2:World} {B:Nat} {a0 a1 a2 a3 a4 a5 a6 a7 a8 a9:Value} (h:RBx w1 B a0 a1 a2 a3 a4 a5 a6 a7 a8 a9) (hb:Below w1.heap.size w1 w2):RBx w2 B a0 a1 a2 a3 a4 a5 a6 a7 a8 a9:=by
 exact z10zk1
open Go.ChangeAt Go.ChangeShapes Go.WideShapes
theorem u64_wf {n:Int} (h:(Lit.int .u64 n).wf=true):∃ m:Nat,n=m∧m < 18446744073709551616:=by
 simp [Lit.wf,IntKind.bits,IntKind.signed,IntKind.min,IntKind.max] at h
 exact ⟨n.toNat,by omega,by omega⟩
theorem i64_wf {n:Int} (h:(Lit.int .i64 n).wf=true) : -9223372036854775808≤n∧n < 9223372036854775808:=by
 simp [Lit.wf,IntKind.bits,IntKind.signed,IntKind.min,IntKind.max] at h
 omega
theorem cellsVal10:Tryz.prog.cellsOf 31=10:=by kernel_rfl
theorem cellsStr1:Tryz.prog.cellsOf 9=1:=by kernel_rfl
theorem cellsSV1:Tryz.prog.cellsOf 28=1:=by kernel_rfl
theorem cellsSS1:Tryz.prog.cellsOf 29=1:=by kernel_rfl
theorem cellsI1:Tryz.prog.cellsOf 3=1:=by kernel_rfl
theorem cellsInt5:Tryz.prog.cellsOf 27=5:=by kernel_rfl
theorem cellsNat4:Tryz.prog.cellsOf 25=4:=by kernel_rfl
theorem cellsU1:Tryz.prog.cellsOf 23=1:=by kernel_rfl
theorem cellsB1:Tryz.prog.cellsOf 4=1:=by kernel_rfl
theorem list10 {α:Type} (l:List α) (h:l.length=10):∃ a b c d e f g i j k,l=[a,b,c,d,e,f,g,i,j,k]:=by
 match l,h with
 | [a,b,c,d,e,f,g,i,j,k],_=>exact ⟨a,b,c,d,e,f,g,i,j,k,rfl⟩
theorem list6 {α:Type} (l:List α) (h:l.length=6):∃ a b c d e f,l=[a,b,c,d,e,f]:=by
 match l,h with
 | [a,b,c,d,e,f],_=>exact ⟨a,b,c,d,e,f,rfl⟩
theorem addr_row {b off i j:Nat}:((⟨b,off,none⟩:Addr).add i).add j=⟨b,off+i+j,none⟩:=by
 unfold Addr.add
 split <;> split <;> simp_all <;> omega
theorem addr_one {b off i:Nat}:(⟨b,off,none⟩:Addr).add i=⟨b,off+i,none⟩:=by
 unfold Addr.add
 split <;> simp_all
theorem addr_spot {w:World} {a:Addr} {v:Value} (h:w.cell? (a.add 0)=some v):a=⟨a.block,a.off,none⟩∧a.block < w.heap.size:=by
 have h0:a.add 0=a:=by unfold Addr.add;rw [if_pos rfl]
 rw [h0] at h
 have hs:=World.cell?_spot h
 obtain ⟨b,o,s⟩:=a
 simp only at hs
 subst hs
 exact ⟨rfl,World.block_lt_of_cell? w _ h⟩
theorem addr_row' {a:Addr} {i j:Nat} (h:a=⟨a.block,a.off,none⟩):(a.add i).add j=⟨a.block,a.off+i+j,none⟩:=by
 obtain ⟨b,o,s⟩:=a
 simp only [Addr.mk.injEq,true_and] at h
 subst h
 exact addr_row
theorem addr_one' {a:Addr} {i:Nat} (h:a=⟨a.block,a.off,none⟩):a.add i=⟨a.block,a.off+i,none⟩:=by
 obtain ⟨b,o,s⟩:=a
 simp only [Addr.mk.injEq,true_and] at h
 subst h
 exact addr_one
section
variable {H:Type} {enc:TypeId × Value→H} {W:World} {sp:Nat→Bool} {base:Nat}
theorem open_VT:∀ (fuel:Nat) (cs:List Value) (x:DataW H × List MemPlace),DataW.trod enc Tryz.prog W 0 sp true fuel 31 cs=some x→∃ T:VT,T.cells=cs∧T.In W:=by
 intro fuel
 induction fuel using Nat.strongRecOn with
 | _ fuel ih=>
  intro cs x h
  obtain ⟨xs,n,rfl,rfl,hlen,hxl,hf⟩:=DataW.trod_struct Tryz.underlying31 h
  rw [cellsVal10] at hlen
  obtain ⟨c0,c1,c2,c3,c4,c5,c6,c7,c8,c9,rfl⟩:=list10 cs hlen
  obtain ⟨x0,x1,x2,x3,x4,x5,rfl⟩:=list6 xs hxl
  have t0:DataW.trod enc Tryz.prog W 0 sp true n 3 (([c0,c1,c2,c3,c4,c5,c6,c7,c8,c9].drop 0).take (Tryz.prog.cellsOf 3))=some x0:=hf 0 _ rfl
  have t1:DataW.trod enc Tryz.prog W 0 sp true n 27 (([c0,c1,c2,c3,c4,c5,c6,c7,c8,c9].drop 1).take (Tryz.prog.cellsOf 27))=some x1:=hf 1 _ rfl
  have t2:DataW.trod enc Tryz.prog W 0 sp true n 23 (([c0,c1,c2,c3,c4,c5,c6,c7,c8,c9].drop 6).take (Tryz.prog.cellsOf 23))=some x2:=hf 2 _ rfl
  have t3:DataW.trod enc Tryz.prog W 0 sp true n 9 (([c0,c1,c2,c3,c4,c5,c6,c7,c8,c9].drop 7).take (Tryz.prog.cellsOf 9))=some x3:=hf 3 _ rfl
  have t4:DataW.trod enc Tryz.prog W 0 sp true n 28 (([c0,c1,c2,c3,c4,c5,c6,c7,c8,c9].drop 8).take (Tryz.prog.cellsOf 28))=some x4:=hf 4 _ rfl
  have t5:DataW.trod enc Tryz.prog W 0 sp true n 29 (([c0,c1,c2,c3,c4,c5,c6,c7,c8,c9].drop 9).take (Tryz.prog.cellsOf 29))=some x5:=hf 5 _ rfl
  simp only [cellsI1,cellsInt5,cellsU1,cellsStr1,cellsSV1,cellsSS1,List.drop_succ_cons,List.drop_zero,List.take_succ_cons,List.take_zero] at t0 t1 t2 t3 t4 t5
  obtain ⟨kind,ek,hk0,wk⟩:=DataW.trod_int Tryz.underlying3 t0
  obtain ⟨yn,yi,n1,hx1,-,u0,u1⟩:=trod_struct2 Tryz.underlying27 t1
  simp only [cellsB1,cellsNat4,List.drop_succ_cons,List.drop_zero,List.take_succ_cons,List.take_zero] at u0 u1
  obtain ⟨neg,e1,-⟩:=DataW.trod_bool Tryz.underlying4 u0
  obtain ⟨z0,z1,z2,z3,m,hz,hy0,hy1,hy2,hy3⟩:=trod_array4 Tryz.underlying25 cellsU1 u1
  obtain ⟨v0,e2,-,w0⟩:=DataW.trod_int Tryz.underlying23 hy0
  obtain ⟨v1,e3,-,w1⟩:=DataW.trod_int Tryz.underlying23 hy1
  obtain ⟨v2,e4,-,w2⟩:=DataW.trod_int Tryz.underlying23 hy2
  obtain ⟨v3,e5,-,w3⟩:=DataW.trod_int Tryz.underlying23 hy3
  obtain ⟨bits,e6,-,w6⟩:=DataW.trod_int Tryz.underlying23 t2
  obtain ⟨text,e7,-,w7⟩:=DataW.trod_string Tryz.underlying9 t3
  simp at ek e1 e2 e3 e4 e5 e6 e7
  subst ek e1 e2 e3 e4 e5 e6 e7
  obtain ⟨a0,rfl,l0⟩:=u64_wf w0
  obtain ⟨a1,rfl,l1⟩:=u64_wf w1
  obtain ⟨a2,rfl,l2⟩:=u64_wf w2
  obtain ⟨a3,rfl,l3⟩:=u64_wf w3
  obtain ⟨bt,rfl,l6⟩:=u64_wf w6
  obtain ⟨m0,m1,m2,m3⟩:=lm_of4 l0 l1 l2 l3
  have hV:=of4_lt l0 l1 l2 l3
  have hkind:=i64_wf wk
  have hLs:∃ (aL:Option Addr) (nL cL:Nat) (kids:Nat→VT),c8=.slice aL nL cL∧nL≤cL∧cL≤maxLen∧(nL=0∨∃ b off,aL=some ⟨b,off,none⟩∧b < W.heap.size∧∀ i,i < nL→∀ j,j < 10→W.cell? ⟨b,off+i * 10+j,none⟩=(kids i).cells[j]?)∧∀ i,i < nL→(kids i).In W:=by
   rcases DataW.trod_slice Tryz.underlying28 t4 with ⟨h8,-⟩|⟨a,len,cap,elems,rest,n2,hn2,h8,-,-,hlc,hcm,hel,hel2,-,-⟩
   ·simp at h8
    exact ⟨none,0,0,fun _=>.nil,h8,Nat.le_refl _,Nat.zero_le _,.inl rfl,fun i hi=>by omega⟩
   ·simp at h8
    rw [cellsVal10] at hel2
    have hex:∀ i,∃ T:VT,i < len→T.In W∧∀ j,j < 10→W.cell? ((a.add (i * 10)).add j)=T.cells[j]? := by
     intro i
     by_cases hi:i < len
     ·have h1:=hel2 i hi
      have h2:∃ y,elems[i]? = some y:=⟨elems[i]'z0c,List.getElem?_eq_getElem z0c⟩
      obtain ⟨y,hy⟩:=h2
      rw [hy,Option.bind_eq_some_iff] at h1
      obtain ⟨cs,hcs,hty⟩:=h1
      obtain ⟨T,hT,hin⟩:=ih n2 z0c cs y hty
      obtain ⟨-,-,hc⟩:=World.cells?_some hcs
      exact ⟨T,fun _=>⟨hin,fun j hj=>by rw [hT];exact hc j hj⟩⟩
     ·exact ⟨.nil,fun h=>absurd h hi⟩
    refine ⟨some a,len,cap,fun i=>Classical.choose (hex i),h8,hlc,hcm,?_,fun i hi=>(Classical.choose_spec (hex i) hi).1⟩
    by_cases h0:len=0
    ·exact .inl h0
    ·obtain ⟨h1,h2⟩:=Classical.choose_spec (hex 0) z0c
     have h3:=h2 0 z0c
     have h4:∃ v,(Classical.choose (hex 0)).cells[0]? = some v:=by
      generalize Classical.choose (hex 0)=T at h1
      cases T with
      | nil=>exact h1.elim
      | mk=>exact ⟨_,rfl⟩
     obtain ⟨v,hv⟩:=h4
     rw [hv] at h3
     have h5:W.cell? (a.add 0)=some v:=by
      have e:(a.add (0 * 10)).add 0=a.add 0:=by unfold Addr.add;simp
      rwa [e] at h3
     obtain ⟨ha,hb⟩:=addr_spot h5
     refine .inr ⟨a.block,a.off,by rw [← ha],hb,fun i hi j hj=>?_⟩
     have h6:=(Classical.choose_spec (hex i) hi).2 j hj
     rw [addr_row' ha] at h6
     exact h6
  have hKs:∃ (aK:Option Addr) (nK cK:Nat) (keys:Nat→ByteArray),c9=.slice aK nK cK∧nK≤cK∧cK≤maxLen∧(nK=0∨∃ b off,aK=some ⟨b,off,none⟩∧b < W.heap.size∧∀ i,i < nK→W.cell? ⟨b,off+i,none⟩=some (.string (keys i))∧(keys i).size≤maxLen):=by
   rcases open_strings Tryz.underlying29 Tryz.underlying9 cellsStr1 t5 with ⟨h9,-⟩|⟨a,len,cap,ss,h9,-,hlc,hcm,hss,-,hcell,hsz⟩
   ·simp at h9
    exact ⟨none,0,0,fun _=>⟨#[]⟩,h9,Nat.le_refl _,Nat.zero_le _,.inl rfl⟩
   ·simp at h9
    have hl:len≤ss.length:=by
     rw [hss]
     split <;> omega
    refine ⟨some a,len,cap,fun i=>ss.getD i ByteArray.empty,h9,hlc,hcm,?_⟩
    by_cases h0:len=0
    ·exact .inl h0
    ·obtain ⟨ha,hb⟩:=addr_spot (hcell 0 z0c)
     refine .inr ⟨a.block,a.off,by rw [← ha],hb,fun i hi=>⟨?_,?_⟩⟩
     ·have h6:=hcell i z0c
      rw [addr_one' ha] at h6
      exact h6
     ·have hi2:i < ss.length:=by omega
      show (ss.getD i ByteArray.empty).size≤maxLen
      rw [List.getD_eq_getElem?_getD,List.getElem?_eq_getElem hi2]
      exact hsz _ (List.getElem_mem hi2)
  obtain ⟨aL,nL,cL,kids,rfl,q1,q2,q3,q4⟩:=hLs
  obtain ⟨aK,nK,cK,keys,rfl,q5,q6,q7⟩:=hKs
  refine ⟨.mk kind neg (of4 a0 a1 a2 a3) bt text aL nL cL kids aK nK cK keys,?_,⟨⟨hkind.1,hkind.2,hV,l6,w7,q1,q2,q5,q6⟩,q3,q4,q7⟩⟩
  simp only [VT.cells]
  rw [m0,m1,m2,m3]
/-- an argument that is a value -/
theorem open_val {v:Value} {d:DataW H} {ps:List MemPlace} (hval:Value.okWide Tryz.prog W .any base 31 v) (h:DataW.Trod enc Tryz.prog W 0 sp true 31 v d ps):∃ T:VT,v=T.agg∧T.In W:=by
 obtain ⟨cs,rfl,hsz⟩:=okWide_struct Tryz.underlying31 hval
 obtain ⟨fuel,hf⟩:=h
 obtain ⟨T,hT,hin⟩:=open_VT fuel _ _ hf
 refine ⟨T,?_,hin⟩
 unfold VT.agg
 rw [hT]
 simp [Value.cells]
end
open Go.ChangeMaps
theorem own:ownKnob Tryz.prog.godebug=none:=by kernel_rfl
theorem laidOut:laidOutB Tryz.prog=true:=by kernel_rfl
theorem gTab:Tryz.prog.globalNamed "math/bits.deBruijn64tab" = some 2:=by kernel_rfl
theorem gTabType:(Tryz.prog.globals[2]?).map (·.type)=some 145:=by kernel_rfl
theorem cellsT64:Tryz.prog.cellsOf 145=64:=by kernel_rfl
theorem cellsE8:Tryz.prog.cellsOf 5=1:=by kernel_rfl
def tabZ:List Int:=Lib.deBruijn64tab.map fun (n:Nat)=>(n:Int)
def laid6:List (String × DataW Unit):=[("math/bits.deBruijn64tab",Rows.laid_math_bits_deBruijn64tab),("unicode/utf8.acceptRanges",Rows.laid_unicode_utf8_acceptRanges),("unicode/utf8.first",Rows.laid_unicode_utf8_first)]
theorem first_eq:Rows.laid_unicode_utf8_first=Lib.firstData:=by kernel_rfl
theorem accept_eq:(Rows.laid_unicode_utf8_acceptRanges:DataW Unit)=Lib.acceptData:=by kernel_rfl
theorem tab_of {W:World} (h:Lib.TabIs Tryz.prog W "math/bits.deBruijn64tab" .u8 tabZ):Tab W:=by
 intro j hj
 have:=h.cell gTab j (by simpa [tabZ] using hj)
 rw [this]
 unfold tabZ
 simp [List.getD,hj]
theorem tab_of6 {W:World} (h:laidMetH Tryz.prog laid6 W):Tab W:=by
 have h0:laidMet Tryz.prog laid6 W:=h
 have h1:laidMet Tryz.prog (("math/bits.deBruijn64tab",Lib.tabData .u8 tabZ) :: [("unicode/utf8.acceptRanges",Rows.laid_unicode_utf8_acceptRanges),("unicode/utf8.first",Rows.laid_unicode_utf8_first)]) W:=h0
 exact tab_of (Lib.tabIs_of_head gTab gTabType Tryz.underlying145 Tryz.underlying5 cellsE8 cellsT64 h1)
theorem u8_of6 {W:World} (h:laidMetH Tryz.prog laid6 W):U8T W:=by
 have h0:laidMet Tryz.prog laid6 W:=h
 have h1:laidMet Tryz.prog [("math/bits.deBruijn64tab",Rows.laid_math_bits_deBruijn64tab),("unicode/utf8.acceptRanges",Lib.acceptData),("unicode/utf8.first",Lib.firstData)] W:=by
  rw [← accept_eq,← first_eq]
  exact h0
 exact utf8Tabs_of_readsT (U8Types.of196 Tryz.lays196) ⟨by kernel_rfl,by kernel_rfl,by kernel_rfl,by kernel_rfl,by kernel_rfl,by kernel_rfl,by kernel_rfl⟩ (Lib.laidMet.reads h1 z0f) (Lib.laidMet.reads h1 z0f)
theorem args_stay {H:Type} {enc:TypeId × Value→H} {W W':World} (hb:Below W.heap.size W W'):∀ {ts:List TypeId} {vs:List Value} {ds:List (DataW H)} {ps:List MemPlace},(∀ t ∈ ts,Tryz.prog.readableRec t=true∧t < Tryz.prog.types.size) →
  DataW.TrodAll enc Tryz.prog W 0 (fun _=>true) true ts vs ds ps→DataW.TrodAll enc Tryz.prog W' 0 (fun b=>decide (b < W.heap.size)) true ts vs ds ps
 | [],_,_,_,_,h=>by
  obtain ⟨rfl,rfl,rfl⟩:=trodAll_nil h
  exact trodAll_mk0
 | t :: ts,_,_,_,hr,h=>by
  obtain ⟨v,vs,d,ds,p,q,rfl,rfl,rfl,h1,h2⟩:=trodAll_cons h
  have hlt:=DataW.TrodAll.lt h
  exact trodAll_cons_mk (Below.trod laidOut (hr t (List.mem_cons_self ..)).1 (hr t (List.mem_cons_self ..)).2 h1 hb fun x hx=>hlt x (List.mem_append_left _ hx)) (args_stay hb (fun t' ht=>hr t' (List.mem_cons_of_mem _ ht)) h2)
theorem post_reads {H:Type} {enc:TypeId × Value→H} {f:Func} {s:ChangeSpec} {W W':World} {args:Array Value} {v:Value} {ds gs:List (DataW H)} {before:List MemPlace}
  (hW:DataW.Whole enc Tryz.prog f.params.toList s.vars false W args.toList ds gs before) (hv:s.vars=[]) (hr:∀ t ∈ f.params.toList,Tryz.prog.readableRec t=true∧t < Tryz.prog.types.size)
  (hres:DataW.TrodAll enc Tryz.prog W' W.heap.size (fun _=>false) false f.resultTypes.toList (v.resultList f.resultTypes.size) (s.fn H (ds ++ gs)).results [])
  (hargs:(s.fn H (ds ++ gs)).args=ds) (hvars:(s.fn H (ds ++ gs)).vars=[]) (hb:Below W.heap.size W W'):s.post enc Tryz.prog f false true false false W args v W':=by
 obtain ⟨p,q,hA,hV,rfl,hfz,hnd⟩:=hW
 refine ⟨ds,gs,p ++ q,[],p,[],⟨p,q,hA,hV,rfl,hfz,hnd⟩,hres,?_,?_,?_,fun h=>by cases h⟩
 ·rw [hargs]
  exact args_stay hb hr hA
 ·rw [hv,hvars]
  trivial
 ·exact hb.frame _
def fillO (l:List Value):Obj→Obj
 | .cells _ t frozen=>.cells l.toArray t frozen
 | o=>o
noncomputable def laidWorld (os:Os):World:=
 { World.holding Tryz.prog os ⟨#[],#[],[]⟩ with heap:=(((World.holding Tryz.prog os ⟨#[],#[],[]⟩).heap.modify 2 (fillO (Lib.deBruijn64tab.map fun (n:Nat)=>Value.int .u8 (n:Int)))).modify 1 (fillO ((List.range 16).flatMap fun i=>[Value.int .u8 (Lib.accLo i:Nat),Value.int .u8 (Lib.accHi i:Nat)]))).modify 0 (fillO (Lib.firstTab.map fun (z:Int)=>Value.int .u8 z)) }
end Go.Proofs.YtfondldmmcmloaaGreatDoor
