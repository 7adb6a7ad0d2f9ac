/- VMay, DM6, MathIeee, MathIe6, Ra6, Rd6, VNum, VIn, VTold, Counts, Within, OwnM. -/
import Derived.WalkSmall
import Derived.Deep.RegionLaw
import Derived.Test.YtfondldmmcmloaaDoorPd12
set_option maxRecDepth 1000000
set_option maxHeartbeats 8000000
namespace Go.Proofs.YtfondldmmcmloaaDoor
open Go Go.RowKit
theorem z13zk1 {p:Prop} (h:p:=by
 obtain ⟨h0,h1,h2,h3,h4,h5,h6,h7,h8,h9⟩:=h.all
 exact ⟨keep_cell hb h0,keep_cell hb h1,keep_cell hb h2,keep_cell hb h3,keep_cell hb h4,keep_cell hb h5,keep_cell hb h6,keep_cell hb h7,keep_cell hb h8,keep_cell hb h9⟩):p:=h
end Go.Proofs.YtfondldmmcmloaaDoor
namespace Go.Proofs.YtfondldmmcmloaaDoor
open Go.RowKit
theorem eqSc_z {k:Int} {s s':Bool} {V b b':Nat} {t t':ByteArray} (hV:V < 2 ^ 256):eqSc k s (lm V 0:Nat) (lm V 1:Nat) (lm V 2:Nat) (lm V 3:Nat) (b:Nat) t k s' 0 0 0 0 (b':Nat) t'=decide (s=s'∧V=0∧b=b'∧t=t'):=by
 have h:=eqSc_lm (k:=k) (s:=s) (s':=s') (V:=V) (U:=0) (b:=b) (b':=b') (t:=t) (t':=t') hV z0g
 rw [lm_zero,lm_zero,lm_zero,lm_zero] at h
 exact h
theorem and_one {b:Nat} (h:b < 18446744073709551616):Go.bits .and .u64 (b:Int) 1=((b % 2:Nat):Int):=by
 rw [and_one_u64 (b:Int) z0b z0b]
 omega
theorem Sound_any:∀ (T:VT) (w:World),T.In w→U8T w→Tab w→Calls Tryd.prog 38 #[T.agg] w fun e w'=>e=.returned (.bool T.right)∧Below w.heap.size w w':=by
 intro T
 induction T with
 | nil=>exact fun w h=>h.elim
 | mk kind neg V bits text aL nL cL kids aK nK cK keys ih=>
  intro w hin hU hT
  obtain ⟨o,hL,hk,hKy⟩:=hin
  simp only [VT.agg,VT.cells]
  obtain ⟨z,hz⟩:∃ z,z=anyN (fun i => !(kids i).right) nL:=⟨_,rfl⟩
  have hR:(VT.mk kind neg V bits text aL nL cL kids aK nK cK keys).right=(midB kind neg V bits text nL nK keys && eqB kind neg V bits text && !z):=by rw [hz];rfl
  rw [hR]
  have CC:Hid (∀ wr:World,Below w.heap.size w wr→Calls Tryd.prog 57 #[.slice aL nL cL,.func (.func 63) #[] #[]] wr fun e w'=>e=.returned (.bool z)∧Below wr.heap.size wr w'):=Lib.hid fun wr hb=>by
   rw [hz]
   refine ContV_any _ eg_sound1 _ aL nL cL kids wr o.lc o.l ?_ (fun i hi=>(hk i hi).below hb) fun i hi w' hb'=>sound1_any _ _ _ (((hk i hi).below hb).below hb') fun w2 hb2=>ih i w2 ((((hk i hi).below hb).below hb').below hb2) (Utf8Tabs_below (Utf8Tabs_below (Utf8Tabs_below hU hb) hb') hb2) (((hT.below hb).below hb').below hb2)
   rcases hL with h|⟨b,off,h1,h2,h3⟩
   ·exact .inl h
   ·exact .inr ⟨b,off,h1,Nat.lt_of_lt_of_le h2 hb.size,fun i hi j hj=>by rw [hb.cell (p:=⟨b,off+i * 10+j,none⟩) h2];exact h3 i hi j hj⟩
  clear ih hk hR hz hL
  have hV:=o.v
  by_cases k7:kind=7
  ·subst k7
   refine sound_7 neg V bits text aL nL cL aK nK cK w _ z _ o.n (Lib.hid ?_) (eqSc_z (b':=0) hV) CC
   simp [midB,eqB,bareNeg,bareV,bareB,bareT]
  by_cases k8:kind=8
  ·subst k8
   refine sound_8 (riseB keys nK) neg V bits text aL nL cL aK nK cK w _ z _ o.l (Lib.hid ?_) (eqSc_z (b':=0) hV) (Lib.hid fun wr hb=>rise_any aK nK cK keys wr (Utf8Tabs_below hU hb) o.nc o.n ?_) CC
   ·simp [midB,eqB,bareNeg,bareV,bareB,bareT]
   ·rcases hKy with h|⟨b,off,h1,h2,h3⟩
    ·exact .inl h
    ·exact .inr ⟨b,off,h1,Nat.lt_of_lt_of_le h2 hb.size,fun i hi=>⟨by rw [hb.cell (p:=⟨b,off+i,none⟩) h2];exact (h3 i hi).1,(h3 i hi).2⟩⟩
  have hmid:∀ x:Bool,nL=0∧nK=0→midB kind neg V bits text nL nK keys=(decide (kind=1) || decide (kind=2) || decide (kind=3) && mayI neg V || decide (kind=4) && mayF bits || decide (kind=5) && validS text || decide (kind=6)):=fun _ h=>by
   unfold midB
   rw [if_neg k7,if_neg k8,h.1,h.2]
   simp
  by_cases h0:nL=0∧nK=0
  ·have hm:=hmid true h0
   obtain ⟨rfl,rfl⟩:=h0
   rw [hm]
   clear hm hmid
   by_cases k1:kind=1
   ·subst k1
    refine sound_1 neg V bits text aL cL aK cK w _ z _ (Lib.hid ?_) (eqSc_z (b':=0) hV) CC
    simp [eqB,bareNeg,bareV,bareB,bareT]
   by_cases k2:kind=2
   ·subst k2
    refine sound_2 neg V bits text aL cL aK cK w _ z _ _ (Lib.hid ?_) (eqSc_z (b':=bits % 2) hV) (and_one o.b) CC
    simp [eqB,bareNeg,bareV,bareB,bareT]
   by_cases k3:kind=3
   ·subst k3
    refine sound_3 (mayI neg V) neg V bits text aL cL aK cK w _ z _ (Lib.hid ?_) (eqSc_lm (b':=0) hV hV) (Lib.hid fun wr _=>May_any neg V hV wr) CC
    simp [eqB,bareNeg,bareV,bareB,bareT]
   by_cases k4:kind=4
   ·subst k4
    refine sound_4 (mayF bits) neg V bits text aL cL aK cK w _ z _ (Lib.hid ?_) (eqSc_z (b':=bits) hV) (Lib.hid fun wr hb=>MayF_any bits o.b wr (hT.below hb)) CC
    simp [eqB,bareNeg,bareV,bareB,bareT]
   by_cases k5:kind=5
   ·subst k5
    refine sound_5 (validS text) neg V bits text aL cL aK cK w _ z _ (Lib.hid ?_) (eqSc_z (b':=0) hV) (Lib.hid fun wr hb=>PValid_any text wr o.t (Utf8Tabs_below hU hb)) CC
    simp [eqB,bareNeg,bareV,bareB,bareT]
   by_cases k6:kind=6
   ·subst k6
    refine sound_6 neg V bits text aL cL aK cK w _ z _ (Lib.hid ?_) (eqSc_z (b':=0) hV) CC
    simp [eqB,bareNeg,bareV,bareB,bareT]
   have e:(decide (kind=1) || decide (kind=2) || decide (kind=3) && mayI neg V || decide (kind=4) && mayF bits || decide (kind=5) && validS text || decide (kind=6))=false:=by simp [k1,k2,k3,k4,k5,k6]
   rw [e]
   exact sound_else kind neg V bits text aL cL aK cK w k1 k2 k3 k4 k5 k6 k7 k8
  ·have e:midB kind neg V bits text nL nK keys=false:=by
    unfold midB
    rw [if_neg k7,if_neg k8]
    have:(nL == 0 && nK == 0)=false:=by
     rw [← Bool.not_eq_true]
     simpa using h0
    rw [this,Bool.false_and]
   rw [e]
   exact sound_no kind neg V bits text aL nL cL aK nK cK w o.l (by simpa using k7) (by simpa using k8) z0b
def VT.may (T:VT):Int:=if 16 < T.depth then 4 else if 10000 < T.nodes∨T.long=true then 8 else if T.right=true then 0 else 1
structure MayC (w:World) (v:Value) (D N:Nat) (l r:Bool):Prop where
 c1:∀ w':World,Below w.heap.size w w'→Calls Tryd.prog 35 #[v] w' fun e w2=>e=.returned (.int .i64 (D:Nat))∧Below w'.heap.size w' w2
 c2:∀ w':World,Below w.heap.size w w'→Calls Tryd.prog 36 #[v] w' fun e w2=>e=.returned (.int .i64 (N:Nat))∧Below w'.heap.size w' w2
 c3:∀ w':World,Below w.heap.size w w'→Calls Tryd.prog 37 #[v] w' fun e w2=>e=.returned (.bool l)∧Below w'.heap.size w' w2
 c4:l=false→∀ w':World,Below w.heap.size w w'→Calls Tryd.prog 38 #[v] w' fun e w2=>e=.returned (.bool r)∧Below w'.heap.size w' w2
theorem May_walk (kind:Int) (neg:Bool) (V bits:Nat) (text:ByteArray) (aL:Option Addr) (nL cL:Nat) (aK:Option Addr) (nK cK:Nat) (D N:Nat) (l r:Bool) (w:World) (hD:D < 4611686018427387904) (hN:N < 4611686018427387904) (C:Hid (MayC w (.agg #[.int .i64 kind,.bool neg,.int .u64 (lm V 0:Nat),.int .u64 (lm V 1:Nat),.int .u64 (lm V 2:Nat),.int .u64 (lm V 3:Nat),.int .u64 (bits:Nat),.string text,.slice aL nL cL,.slice aK nK cK]) D N l r)) :
  Calls Tryd.prog 20 #[.agg #[.int .i64 kind,.bool neg,.int .u64 (lm V 0:Nat),.int .u64 (lm V 1:Nat),.int .u64 (lm V 2:Nat),.int .u64 (lm V 3:Nat),.int .u64 (bits:Nat),.string text,.slice aL nL cL,.slice aK nK cK]] w fun e w'=>e=.returned (.int .i64 (if 16 < D then 4 else if 10000 < N∨l=true then 8 else if r=true then 0 else 1))∧Below w.heap.size w w':=by
 have V0:=Lib.hid (show VBx (w.alloc (.cells #[.int .i64 kind,.bool neg,.int .u64 (lm V 0:Nat),.int .u64 (lm V 1:Nat),.int .u64 (lm V 2:Nat),.int .u64 (lm V 3:Nat),.int .u64 (bits:Nat),.string text,.slice aL nL cL,.slice aK nK cK] 35)) w.heap.size kind neg V bits text aL nL cL aK nK cK from ⟨by simp [go_sem]⟩)
 by_cases h1:16 < D
 ·rw [if_pos h1]
  have h1i:(16:Int) < (D:Int):=by omega
  go_enter Tryd.func20,Tryd.ntmps20
  repeat any_goals (first|(go_at_call 35;with_reducible refine (C.out.c1 _ zb2).mono ?_;rintro e w1 ⟨rfl,hb1⟩;(first|have V1:=Lib.hid (V0.out.below hb1)|have V1:=Lib.hid (V0.out.step hb1));obtain ⟨_,_,_,_,_,_,_,_,_,_⟩:=V1.out.all)|go_skip|go_guarded|go_step|go_upon|(dsimp only []))
  exact bodyPost_ret (v:=.int .i64 4) (by simp [results,Tryd.results20,go_sem]) rfl ⟨rfl,zb2⟩
 ·rw [if_neg h1]
  have h1i:¬ (16:Int) < (D:Int):=by omega
  by_cases h2:10000 < N
  ·rw [if_pos (.inl h2)]
   have h2i:(10000:Int) < (N:Int):=by omega
   go_enter Tryd.func20,Tryd.ntmps20
   repeat any_goals (first|(go_at_call 35;with_reducible refine (C.out.c1 _ zb2).mono ?_;rintro e w1 ⟨rfl,hb1⟩;(first|have V1:=Lib.hid (V0.out.below hb1)|have V1:=Lib.hid (V0.out.step hb1));obtain ⟨_,_,_,_,_,_,_,_,_,_⟩:=V1.out.all)|(go_at_call 36;with_reducible refine (C.out.c2 _ zb2).mono ?_;rintro e w2 ⟨rfl,hb2⟩;(first|have V2:=Lib.hid (V1.out.below hb2)|have V2:=Lib.hid (V1.out.step hb2));obtain ⟨_,_,_,_,_,_,_,_,_,_⟩:=V2.out.all)|go_skip|go_guarded|go_step|go_upon|(dsimp only []))
   exact bodyPost_ret (v:=.int .i64 8) (by simp [results,Tryd.results20,go_sem]) rfl ⟨rfl,zb2⟩
  ·have h2i:¬ (10000:Int) < (N:Int):=by omega
   cases l with
   | true=>
    rw [if_pos (.inr rfl)]
    go_enter Tryd.func20,Tryd.ntmps20
    repeat any_goals (first|(go_at_call 35;with_reducible refine (C.out.c1 _ zb2).mono ?_;rintro e w1 ⟨rfl,hb1⟩;(first|have V1:=Lib.hid (V0.out.below hb1)|have V1:=Lib.hid (V0.out.step hb1));obtain ⟨_,_,_,_,_,_,_,_,_,_⟩:=V1.out.all)|(go_at_call 36;with_reducible refine (C.out.c2 _ zb2).mono ?_;rintro e w2 ⟨rfl,hb2⟩;(first|have V2:=Lib.hid (V1.out.below hb2)|have V2:=Lib.hid (V1.out.step hb2));obtain ⟨_,_,_,_,_,_,_,_,_,_⟩:=V2.out.all)|(go_at_call 37;with_reducible refine (C.out.c3 _ zb2).mono ?_;rintro e w3 ⟨rfl,hb3⟩;(first|have V3:=Lib.hid (V2.out.below hb3)|have V3:=Lib.hid (V2.out.step hb3));obtain ⟨_,_,_,_,_,_,_,_,_,_⟩:=V3.out.all)|go_skip|go_guarded|go_step|go_upon|(dsimp only []))
    exact bodyPost_ret (v:=.int .i64 8) (by simp [results,Tryd.results20,go_sem]) rfl ⟨rfl,zb2⟩
   | false=>
    rw [if_neg (fun h=>h.elim h2 Bool.false_ne_true)]
    cases r with
    | true=>
     rw [if_pos rfl]
     go_enter Tryd.func20,Tryd.ntmps20
     repeat any_goals (first|(go_at_call 35;with_reducible refine (C.out.c1 _ zb2).mono ?_;rintro e w1 ⟨rfl,hb1⟩;(first|have V1:=Lib.hid (V0.out.below hb1)|have V1:=Lib.hid (V0.out.step hb1));obtain ⟨_,_,_,_,_,_,_,_,_,_⟩:=V1.out.all)|(go_at_call 36;with_reducible refine (C.out.c2 _ zb2).mono ?_;rintro e w2 ⟨rfl,hb2⟩;(first|have V2:=Lib.hid (V1.out.below hb2)|have V2:=Lib.hid (V1.out.step hb2));obtain ⟨_,_,_,_,_,_,_,_,_,_⟩:=V2.out.all)|(go_at_call 37;with_reducible refine (C.out.c3 _ zb2).mono ?_;rintro e w3 ⟨rfl,hb3⟩;(first|have V3:=Lib.hid (V2.out.below hb3)|have V3:=Lib.hid (V2.out.step hb3));obtain ⟨_,_,_,_,_,_,_,_,_,_⟩:=V3.out.all)|(go_at_call 38;refine (C.out.c4 rfl _ zb2).mono ?_;rintro e w4 ⟨rfl,hb4⟩)|go_skip|go_guarded|go_step|go_upon|(dsimp only []))
     exact bodyPost_ret (v:=.int .i64 0) (by simp [results,Tryd.results20,go_sem]) rfl ⟨rfl,zb2⟩
    | false=>
     rw [if_neg Bool.false_ne_true]
     go_enter Tryd.func20,Tryd.ntmps20
     repeat any_goals (first|(go_at_call 35;with_reducible refine (C.out.c1 _ zb2).mono ?_;rintro e w1 ⟨rfl,hb1⟩;(first|have V1:=Lib.hid (V0.out.below hb1)|have V1:=Lib.hid (V0.out.step hb1));obtain ⟨_,_,_,_,_,_,_,_,_,_⟩:=V1.out.all)|(go_at_call 36;with_reducible refine (C.out.c2 _ zb2).mono ?_;rintro e w2 ⟨rfl,hb2⟩;(first|have V2:=Lib.hid (V1.out.below hb2)|have V2:=Lib.hid (V1.out.step hb2));obtain ⟨_,_,_,_,_,_,_,_,_,_⟩:=V2.out.all)|(go_at_call 37;with_reducible refine (C.out.c3 _ zb2).mono ?_;rintro e w3 ⟨rfl,hb3⟩;(first|have V3:=Lib.hid (V2.out.below hb3)|have V3:=Lib.hid (V2.out.step hb3));obtain ⟨_,_,_,_,_,_,_,_,_,_⟩:=V3.out.all)|(go_at_call 38;refine (C.out.c4 rfl _ zb2).mono ?_;rintro e w4 ⟨rfl,hb4⟩)|go_skip|go_guarded|go_step|go_upon|(dsimp only []))
     exact bodyPost_ret (v:=.int .i64 1) (by simp [results,Tryd.results20,go_sem]) rfl ⟨rfl,zb2⟩
theorem MayV_any (T:VT) (w:World) (hin:T.In w) (hU:U8T w) (hT:Tab w) (hN:T.nodes < 4611686018427387904) :
  Calls Tryd.prog 20 #[T.agg] w fun e w'=>e=.returned (.int .i64 T.may)∧Below w.heap.size w w':=by
 have C:Hid (MayC w T.agg T.depth T.nodes T.long T.right):=Lib.hid ⟨fun w' hb=>Depth_any T w' (hin.below hb) hN,fun w' hb=>Nodes_any T w' (hin.below hb) hN,fun w' hb=>Long_any T w' (hin.below hb),fun _ w' hb=>Sound_any T w' (hin.below hb) (Utf8Tabs_below hU hb) (hT.below hb)⟩
 have hD:=T.depth_nodes
 unfold VT.may
 cases T with
 | nil=>exact hin.elim
 | mk kind neg V bits text aL nL cL kids aK nK cK keys=>exact May_walk kind neg V bits text aL nL cL aK nK cK _ _ _ _ w z0b hN C
def dig (V j:Nat):Nat:=V / 2 ^ (32 * j) % 4294967296
def dl (V:Nat):Nat:=(bl V+31) / 32
def DN (w:World) (v:Value) (n V:Nat):Prop:=
 V < 2 ^ (32 * n)∧n≤281474976∧∃ ao cap,v=.slice ao n cap∧n≤cap∧cap≤9223372036854775807∧(0 < n→∃ b,ao=some ⟨b,0,none⟩∧b < w.heap.size∧∀ j,j < n→w.cell? ⟨b,j,none⟩=some (.int .u32 (dig V j:Nat)))
def IsD (w:World) (v:Value) (V:Nat):Prop:=DN w v (dl V) V
theorem DN.below {w w':World} {v:Value} {n V:Nat} (h:DN w v n V) (hb:Below w.heap.size w w'):DN w' v n V:=by
 obtain ⟨h1,h0,ao,cap,h2,h3,h4,h5⟩:=h
 refine ⟨h1,h0,ao,cap,h2,h3,h4,fun hn=>?_⟩
 obtain ⟨b,rfl,hb1,hc⟩:=h5 hn
 refine ⟨b,rfl,Nat.lt_of_lt_of_le hb1 hb.size,fun j hj=>?_⟩
 rw [hb.cell (p:=⟨b,j,none⟩) hb1]
 exact hc j hj
theorem DN.alloc {w:World} {v:Value} {n V:Nat} (h:DN w v n V) (o:Obj):DN (w.alloc o) v n V:=h.below ((Below.refl _ _).alloc (Nat.le_refl _) o)
theorem DN.drew {w:World} {v:Value} {n V:Nat} (h:DN w v n V):DN w.drew v n V:=h.below (Below.refl _ _).drew
structure ZV (W':World) (B:Nat):Prop where
 all:(W'.cell? ⟨B,0,none⟩=some (.int .i64 0)∧W'.cell? ⟨B,1,none⟩=some (.bool false)∧W'.cell? ⟨B,2,none⟩=some (.int .u64 0)∧W'.cell? ⟨B,3,none⟩=some (.int .u64 0)∧W'.cell? ⟨B,4,none⟩=some (.int .u64 0)∧W'.cell? ⟨B,5,none⟩=some (.int .u64 0)∧W'.cell? ⟨B,6,none⟩=some (.int .u64 0)∧W'.cell? ⟨B,7,none⟩=some (.string ⟨#[]⟩)∧W'.cell? ⟨B,8,none⟩=some (.slice none 0 0)∧W'.cell? ⟨B,9,none⟩=some (.slice none 0 0))∧(W'.frozen? ⟨B,0,none⟩=false∧W'.frozen? ⟨B,1,none⟩=false∧W'.frozen? ⟨B,2,none⟩=false∧W'.frozen? ⟨B,3,none⟩=false∧W'.frozen? ⟨B,4,none⟩=false∧W'.frozen? ⟨B,5,none⟩=false∧W'.frozen? ⟨B,6,none⟩=false∧W'.frozen? ⟨B,7,none⟩=false∧W'.frozen? ⟨B,8,none⟩=false∧W'.frozen? ⟨B,9,none⟩=false)∧B < W'.heap.size
theorem ZV.below {B:Nat} {w1 w2:World} (h:ZV w1 B) (hb:Below w1.heap.size w1 w2):ZV w2 B:=by
 obtain ⟨⟨a0,a1,a2,a3,a4,a5,a6,a7,a8,a9⟩,⟨b0,b1,b2,b3,b4,b5,b6,b7,b8,b9⟩,l⟩:=h.all
 have f:∀ i,w2.frozen? ⟨B,i,none⟩=w1.frozen? ⟨B,i,none⟩:=fun i=>hb.frozen (p:=⟨B,i,none⟩) l
 exact ⟨⟨keep_cell hb a0,keep_cell hb a1,keep_cell hb a2,keep_cell hb a3,keep_cell hb a4,keep_cell hb a5,keep_cell hb a6,keep_cell hb a7,keep_cell hb a8,keep_cell hb a9⟩,
  ⟨(f 0).trans b0,(f 1).trans b1,(f 2).trans b2,(f 3).trans b3,(f 4).trans b4,(f 5).trans b5,(f 6).trans b6,(f 7).trans b7,(f 8).trans b8,(f 9).trans b9⟩,Nat.lt_of_lt_of_le l hb.size⟩
structure VB1 (W':World) (B:Nat):Prop where
 all:W'.cell? ⟨B,0,none⟩=some (.int .i64 3)∧W'.cell? ⟨B,1,none⟩=some (.bool false)∧W'.cell? ⟨B,2,none⟩=some (.int .u64 1)∧W'.cell? ⟨B,3,none⟩=some (.int .u64 0)∧W'.cell? ⟨B,4,none⟩=some (.int .u64 0)∧W'.cell? ⟨B,5,none⟩=some (.int .u64 0)∧W'.cell? ⟨B,6,none⟩=some (.int .u64 0)∧W'.cell? ⟨B,7,none⟩=some (.string ⟨#[]⟩)∧W'.cell? ⟨B,8,none⟩=some (.slice none 0 0)∧W'.cell? ⟨B,9,none⟩=some (.slice none 0 0)
theorem VB1.below {B:Nat} {w1 w2:World} (h:VB1 w1 B) (hb:Below w1.heap.size w1 w2):VB1 w2 B:=by
 exact z13zk1
structure KBx (w':World) (B o:Nat) (kind:Int) (neg:Bool) (V bits:Nat) (text:ByteArray) (aL:Option Addr) (nL cL:Nat) (aK:Option Addr) (nK cK:Nat):Prop where
 all:w'.cell? ⟨B,o,none⟩=some (.int .i64 kind)∧w'.cell? ⟨B,o+1,none⟩=some (.bool neg)∧w'.cell? ⟨B,o+2,none⟩=some (.int .u64 (lm V 0:Nat))∧w'.cell? ⟨B,o+3,none⟩=some (.int .u64 (lm V 1:Nat))∧w'.cell? ⟨B,o+4,none⟩=some (.int .u64 (lm V 2:Nat)) ∧
  w'.cell? ⟨B,o+5,none⟩=some (.int .u64 (lm V 3:Nat))∧w'.cell? ⟨B,o+6,none⟩=some (.int .u64 (bits:Nat))∧w'.cell? ⟨B,o+7,none⟩=some (.string text)∧w'.cell? ⟨B,o+8,none⟩=some (.slice aL nL cL)∧w'.cell? ⟨B,o+9,none⟩=some (.slice aK nK cK)
theorem KBx.below {w1 w2:World} {B o:Nat} {kind:Int} {neg:Bool} {V bits:Nat} {text:ByteArray} {aL:Option Addr} {nL cL:Nat} {aK:Option Addr} {nK cK:Nat} (h:KBx w1 B o kind neg V bits text aL nL cL aK nK cK) (hb:Below w1.heap.size w1 w2):KBx w2 B o kind neg V bits text aL nL cL aK nK cK:=by
 exact z13zk1
structure RBx (w':World) (B:Nat) (a0 a1 a2 a3 a4 a5 a6 a7 a8 a9:Value):Prop where
 all:w'.cell? ⟨B,0,none⟩=some a0∧w'.cell? ⟨B,1,none⟩=some a1∧w'.cell? ⟨B,2,none⟩=some a2∧w'.cell? ⟨B,3,none⟩=some a3∧w'.cell? ⟨B,4,none⟩=some a4∧w'.cell? ⟨B,5,none⟩=some a5∧w'.cell? ⟨B,6,none⟩=some a6∧w'.cell? ⟨B,7,none⟩=some a7∧w'.cell? ⟨B,8,none⟩=some a8∧w'.cell? ⟨B,9,none⟩=some a9
theorem RBx.below {w1 w2:World} {B:Nat} {a0 a1 a2 a3 a4 a5 a6 a7 a8 a9:Value} (h:RBx w1 B a0 a1 a2 a3 a4 a5 a6 a7 a8 a9) (hb:Below w1.heap.size w1 w2):RBx w2 B a0 a1 a2 a3 a4 a5 a6 a7 a8 a9:=by
 exact z13zk1
theorem VT.may_zero {T:VT}:T.may=0↔T.depth≤16∧T.nodes≤10000∧T.long=false∧T.right=true:=by
 unfold VT.may
 by_cases h1:16 < T.depth
 ·rw [if_pos h1]
  exact ⟨fun h=>(by cases h),fun h=>by omega⟩
 ·rw [if_neg h1]
  by_cases h2:10000 < T.nodes∨T.long=true
  ·rw [if_pos h2]
   refine ⟨fun h=>(by cases h),fun h=>?_⟩
   rcases h2 with h2|h2
   ·omega
   ·rw [h.2.2.1] at h2
    cases h2
  ·rw [if_neg h2]
   have hl:T.long=false:=by
    cases h:T.long
    ·rfl
    ·exact absurd (.inr h) h2
   by_cases h3:T.right=true
   ·rw [if_pos h3]
    exact ⟨fun _=>⟨by omega,by omega,hl,h3⟩,fun _=>rfl⟩
   ·rw [if_neg h3]
    exact ⟨fun h=>(by cases h),fun h=>absurd h.2.2.2 h3⟩
section
variable {kind:Int} {neg:Bool} {V bits:Nat} {text:ByteArray} {aL:Option Addr} {nL cL:Nat} {kids:Nat→VT} {aK:Option Addr} {nK cK:Nat} {keys:Nat→ByteArray} {i:Nat}
end
def eqI (s t:Bool) (a0 a1 a2 a3 b0 b1 b2 b3:Int):Bool:=s == t && (a0 == b0 && a1 == b1 && a2 == b2 && a3 == b3)
@[go_sem high] theorem run_equalIn_int (d : Nat) (s : Bool) (a0 a1 a2 a3 : Int) (t : Bool) (b0 b1 b2 b3 : Int) (w : World) :
  (Op.equalIn (d+3) 31 (.agg #[.bool s,.int .u64 a0,.int .u64 a1,.int .u64 a2,.int .u64 a3]) (.agg #[.bool t,.int .u64 b0,.int .u64 b1,.int .u64 b2,.int .u64 b3])).run Tryd.prog w=.ok (eqI s t a0 a1 a2 a3 b0 b1 b2 b3) w:=by
 have h26:=Tryd.underlying31
 have h24:=Tryd.underlying29
 unfold Op.equalIn eqI
 simp only [Sem.run_bind,run_underlying h26,Result.andThen_ok]
 simp [go_sem]
 by_cases e:s=t <;> by_cases e0:a0=b0 <;> by_cases e1:a1=b1 <;> by_cases e2:a2=b2 <;> by_cases e3:a3=b3 <;> simp [e,e0,e1,e2,e3]
structure SKx (w':World) (p q:Addr) (s t:ByteArray):Prop where
 all:w'.cell? p=some (.string s)∧w'.cell? q=some (.string t)∧True∧True∧True
theorem SKx.below {w1 w2:World} {p q:Addr} {s t:ByteArray} (h:SKx w1 p q s t) (hb:Below w1.heap.size w1 w2):SKx w2 p q s t:=⟨keep_cell hb h.all.1,keep_cell hb h.all.2.1,trivial,trivial,trivial⟩
end Go.Proofs.YtfondldmmcmloaaDoor
