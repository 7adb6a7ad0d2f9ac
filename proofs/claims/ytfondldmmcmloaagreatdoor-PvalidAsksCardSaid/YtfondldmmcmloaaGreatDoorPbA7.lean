/- NrG, NrI, NrH, As23, No23, An23, AnC. -/
import Derived.Test.YtfondldmmcmloaaGreatDoorPb37
import Derived.Test.YtfondldmmcmloaaGreatDoorPbA6
set_option maxRecDepth 1000000
set_option maxHeartbeats 8000000
namespace Go.Proofs.YtfondldmmcmloaaGreatDoor
open Go Go.RowKit
theorem za7zs1 {p q:Prop} (h:q) (e:q→p:=by intro hq;(try simp only [Act.put,List.setIfInBounds_toArray,List.set_cons_zero,List.set_cons_succ]);exact hq):p:=e h
theorem za7zk1 {p:Prop} (h:p:=by
 exact bodyPost_ret (v:=.bool true) (by simp [results,Tryz.results3,go_sem]) rfl ⟨rfl,zb2⟩):p:=h
end Go.Proofs.YtfondldmmcmloaaGreatDoor
namespace Go.Proofs.YtfondldmmcmloaaGreatDoor
open Go.RowKit
theorem RNorm_yes (M:Nat→PM) (a:Option Addr) (n c:Nat) (kind:Int) (neg:Bool) (V bits:Nat) (text:ByteArray) (aL:Option Addr) (nL cL:Nat) (kids:Nat→VT) (aK:Option Addr) (nK cK:Nat) (keys:Nat→ByteArray) (w:World) (hL:PL w a n c M) (hin:VT.In w (.mk kind neg V bits text aL nL cL kids aK nK cK keys)) (hv:validB M n (.mk kind neg V bits text aL nL cL kids aK nK cK keys)=true) (hN:RNrm M a n c (.mk kind neg V bits text aL nL cL kids aK nK cK keys))
  (C1:Hid (∀ wr:World,Below w.heap.size w wr→Calls Tryz.prog 12 #[.slice a n c,.agg #[.int .i64 kind,.bool neg,.int .u64 (lm V 0:Nat),.int .u64 (lm V 1:Nat),.int .u64 (lm V 2:Nat),.int .u64 (lm V 3:Nat),.int .u64 (bits:Nat),.string text,.slice aL nL cL,.slice aK nK cK]] wr fun e w'=>e=.returned (.bool true)∧Below wr.heap.size wr w')) :
  Calls Tryz.prog 10 #[.slice a n c,VT.agg (.mk kind neg V bits text aL nL cL kids aK nK cK keys)] w fun e w'=>∃ t:VT,e=.returned (.tuple #[t.agg,.bool true])∧NrT w w' (.mk kind neg V bits text aL nL cL kids aK nK cK keys) ((nrm2 M n (.mk kind neg V bits text aL nL cL kids aK nK cK keys)).msg (M 0)) t∧Below w.heap.size w w':=by
 have HL:=Lib.hid hL
 have HIN:=Lib.hid hin
 have hv2:=hv
 unfold validB at hv2
 rw [Bool.and_eq_true,Bool.and_eq_true,decide_eq_true_eq] at hv2
 obtain ⟨hck,hmy,hmsg⟩:=hv2
 have hpos:=check_pos hck
 obtain ⟨-,-,hlg,hrt⟩:=may_right hmy
 have C3:=Lib.hid fun wx (hx:Below w.heap.size w wx)=>hN 0 wx hpos (HL.out.below hx) (VT.In.below hx _ HIN.out) hrt hlg hmsg
 obtain ⟨b,off,ea,-,hm4,-⟩:=m_lit hL hpos (Below.refl _ _)
 rw [Nat.zero_mul,Nat.add_zero] at hm4
 have HM4:=Lib.hid hm4
 have q5:=hL.l
 have q6:=hL.lc
 subst ea
 obtain ⟨m,hm⟩:∃ m,M 0=m:=⟨_,rfl⟩
 rw [hm] at C3 HM4 ⊢
 unfold VT.agg VT.cells at C3 ⊢
 rw [show ((0:Nat):Int)=(0:Int) from rfl] at C3
 simp only [maxLen] at q6
 have i1:(0:Int) < (n:Int):=by omega
 clear hL hin hv hN hck hmy hmsg hlg hrt hm4 hm
 go_enter Tryz.func10,Tryz.ntmps10
 go_upto_region 1 with fail
 have NW:=Lib.hid (nd_start w 31 kind neg V bits text aL nL cL aK nK cK)
 generalize (w.alloc (.cells #[.int .i64 kind,.bool neg,.int .u64 (lm V 0:Nat),.int .u64 (lm V 1:Nat),.int .u64 (lm V 2:Nat),.int .u64 (lm V 3:Nat),.int .u64 (bits:Nat),.string text,.slice aL nL cL,.slice aK nK cK] 31)).alloc (.cells #[.int .i64 0,.bool false,.int .u64 0,.int .u64 0,.int .u64 0,.int .u64 0,.int .u64 0,.string ⟨#[]⟩,.slice none 0 0,.slice none 0 0] 31)=W at *
 obtain ⟨Bv,hBv⟩:∃ B,B=w.heap.size:=⟨_,rfl⟩
 obtain ⟨Br,hBr⟩:∃ B,B=w.heap.size+1:=⟨_,rfl⟩
 rw [← hBr,← hBv] at NW ⊢
 clear hBr hBv
 obtain ⟨_,_,_,_,_,_,_,_,_,_⟩:=NW.out.v.all
 go_upto_region 3 with (go_at_call 12;with_reducible refine (C1.out _ NW.out.b).mono ?_;rintro e w1 ⟨rfl,hb1⟩)
 have V1:=Lib.hid (NW.out.v.below hb1)
 have R1:=Lib.hid (NW.out.r.below hb1)
 have hW1:=below_trans NW.out.b hb1
 have hm4:=HM4.out.below hW1
 obtain ⟨_,_,_,_⟩:=hm4.all
 obtain ⟨_,_,_,_,_,_,_,_,_,_⟩:=V1.out.all
 skip
 repeat any_goals (first|(go_at_call 19;with_reducible refine (C3.out _ (below_trans hW1 zb2)).mono ?_;rintro e w2 ⟨tt,rfl,hNT,hb2⟩;obtain ⟨kindt,negt,Vt,bitst,textt,aLt,nLt,cLt,kidst,aKt,nKt,cKt,keyst,rfl⟩:=VT.In.lit hNT.i;simp only;have hd2:Below w1.heap.size w1 w2:=below_trans zb2 hb2;have R2:=Lib.hid (R1.out.below hd2);obtain ⟨_,_,_,_,_,_,_,_,_,_⟩:=R2.out.c.all;have hf1:=R2.out.f;have hl1:=R2.out.lt;have hr0:=NW.out.l;have hW2:=below_trans hW1 hd2;have hl2:Br < w1.heap.size:=R1.out.lt)|go_skip|go_guarded|go_step|go_upon|(dsimp only []))
 have hb:∀ b,b≠Br→(((((((((((w2.setCell ⟨Br,0,none⟩ (.int .i64 kindt)).setCell ⟨Br,1,none⟩ (.bool negt)).setCell ⟨Br,2,none⟩ (.int .u64 (lm Vt 0:Nat))).setCell ⟨Br,3,none⟩ (.int .u64 (lm Vt 1:Nat))).setCell ⟨Br,4,none⟩ (.int .u64 (lm Vt 2:Nat))).setCell ⟨Br,5,none⟩ (.int .u64 (lm Vt 3:Nat))).setCell ⟨Br,6,none⟩ (.int .u64 (bitst:Nat))).setCell ⟨Br,7,none⟩ (.string textt)).setCell ⟨Br,8,none⟩ (.slice aLt nLt cLt)).setCell ⟨Br,9,none⟩ (.slice aKt nKt cKt))).heap[b]? = w2.heap[b]? := fun b hb=>set10_block hb
 have hs10:w2.heap.size≤(((((((((((w2.setCell ⟨Br,0,none⟩ (.int .i64 kindt)).setCell ⟨Br,1,none⟩ (.bool negt)).setCell ⟨Br,2,none⟩ (.int .u64 (lm Vt 0:Nat))).setCell ⟨Br,3,none⟩ (.int .u64 (lm Vt 1:Nat))).setCell ⟨Br,4,none⟩ (.int .u64 (lm Vt 2:Nat))).setCell ⟨Br,5,none⟩ (.int .u64 (lm Vt 3:Nat))).setCell ⟨Br,6,none⟩ (.int .u64 (bitst:Nat))).setCell ⟨Br,7,none⟩ (.string textt)).setCell ⟨Br,8,none⟩ (.slice aLt nLt cLt)).setCell ⟨Br,9,none⟩ (.slice aKt nKt cKt))).heap.size:=by simp
 exact bodyPost_ret (v:=.tuple #[.agg #[.int .i64 kindt,.bool negt,.int .u64 (lm Vt 0:Nat),.int .u64 (lm Vt 1:Nat),.int .u64 (lm Vt 2:Nat),.int .u64 (lm Vt 3:Nat),.int .u64 (bitst:Nat),.string textt,.slice aLt nLt cLt,.slice aKt nKt cKt],.bool true]) (by simp [results,Tryz.results10,go_sem, *]) rfl ⟨(.mk kindt negt Vt bitst textt aLt nLt cLt kidst aKt nKt cKt keyst),rfl,⟨hNT.i.kept hs10 (fun b _ h=>hb b h) (hNT.q (fun b=>b≠Br) (HIN.out.blk.mono fun b (h:b < w.heap.size)=>by omega) (fun b (h:w1.heap.size≤b)=>by omega)),fun Q h0 h1=>hNT.q Q h0 (fun b (h:w1.heap.size≤b)=>h1 b (Nat.le_trans hW1.size h)),hNT.s⟩,zb2⟩
theorem NormQ.sim {w w1:World} {T F t:VT} {p:Bool} (h1:p=true→NrT w w1 T F t) (h2:p=false→t=zeroT):Sim t (if p=true then F else zeroT):=by
 cases p with
 | true=>rw [if_pos rfl];exact (h1 rfl).s
 | false=>rw [if_neg Bool.false_ne_true,h2 rfl];exact Sim.self (zeroT_in w)
theorem RNormV_any (M:Nat→PM) (a:Option Addr) (n c:Nat) (T:VT) (w:World) (hL:PL w a n c M) (hin:T.In w) (hN:T.nodes < 4611686018427387904) :
  Calls Tryz.prog 10 #[.slice a n c,T.agg] w (NormQ w T ((nrm2 M n T).msg (M 0)) (validB M n T)):=by
 have C1:=Lib.hid fun wx (hx:Below w.heap.size w wx)=>RValidM_any M a n c T wx (hL.below hx) (VT.In.below hx _ hin) hN
 by_cases hv:validB M n T=true
 ·rw [hv] at C1 ⊢
  have hck:checkB M n=true:=by
   unfold validB at hv
   rw [Bool.and_eq_true] at hv
   exact hv.1
  have hNx:=(rnorm_all M a n c (check_types hck) (check_noscal hck) (check_both hck) T).1
  cases T with
  | nil=>exact hin.elim
  | mk kind neg V bits text aL nL cL kids aK nK cK keys=>
   refine (RNorm_yes M a n c kind neg V bits text aL nL cL kids aK nK cK keys w hL hin hv hNx C1).mono ?_
   rintro e w' ⟨t,he,ht,hb⟩
   exact ⟨t,he,ht.i,fun _=>ht,fun h=>(by cases h),hb⟩
 ·rw [Bool.not_eq_true] at hv
  rw [hv] at C1 ⊢
  cases T with
  | nil=>exact hin.elim
  | mk kind neg V bits text aL nL cL kids aK nK cK keys=>
   refine (RNorm_no a n c kind neg V bits text aL nL cL aK nK cK w C1).mono ?_
   rintro e w' ⟨he,hb⟩
   exact ⟨zeroT,by rw [he];simp [zeroT,VT.agg,VT.cells,lm_none],zeroT_in w',fun h=>(by cases h),fun _=>rfl,hb⟩
theorem Asks_few (a:Option Addr) (n c:Nat) (kind:Int) (neg:Bool) (V bits:Nat) (text:ByteArray) (aL:Option Addr) (nL cL:Nat) (aK:Option Addr) (nK cK:Nat) (f1 f2:Bool) (hf:(f1 && f2)=false) (w:World)
  (C1:Hid (∀ wr:World,Below w.heap.size w wr→Calls Tryz.prog 6 #[.slice a n c] wr fun e w'=>e=.returned (.bool f1)∧Below wr.heap.size wr w'))
  (C2:Hid (∀ wr:World,Below w.heap.size w wr→Calls Tryz.prog 7 #[.agg #[.int .i64 kind,.bool neg,.int .u64 (lm V 0:Nat),.int .u64 (lm V 1:Nat),.int .u64 (lm V 2:Nat),.int .u64 (lm V 3:Nat),.int .u64 (bits:Nat),.string text,.slice aL nL cL,.slice aK nK cK]] wr fun e w'=>e=.returned (.bool f2)∧Below wr.heap.size wr w'))
  (CT:Hid (∀ wr:World,Below w.heap.size w wr→Calls Tryz.prog 8 #[] wr fun e w'=>e=.returned (.bool true)∧Below wr.heap.size wr w')) :
  Calls Tryz.prog 3 #[.slice a n c,.agg #[.int .i64 kind,.bool neg,.int .u64 (lm V 0:Nat),.int .u64 (lm V 1:Nat),.int .u64 (lm V 2:Nat),.int .u64 (lm V 3:Nat),.int .u64 (bits:Nat),.string text,.slice aL nL cL,.slice aK nK cK]] w fun e w'=>e=.returned (.bool true)∧Below w.heap.size w w':=by
 have V0:=Lib.hid (vbx_new w 31 kind neg V bits text aL nL cL aK nK cK)
 cases f1 with
 | false=>
  go_enter Tryz.func3,Tryz.ntmps3
  repeat any_goals (first|(go_at_call 6;refine (C1.out _ zb2).mono ?_;rintro e w1 ⟨rfl,hb1⟩)|(go_at_call 8;refine (CT.out _ zb2).mono ?_;rintro e w3 ⟨rfl,hb3⟩)|go_skip|go_guarded|go_step|go_upon|(dsimp only []))
  exact za7zk1
 | true=>
  obtain rfl:f2=false:=hf
  go_enter Tryz.func3,Tryz.ntmps3
  repeat any_goals (first|(go_at_call 6;with_reducible refine (C1.out _ zb2).mono ?_;rintro e w1 ⟨rfl,hb1⟩;(first|have V1:=Lib.hid (V0.out.below hb1)|have V1:=Lib.hid (V0.out.step hb1));obtain ⟨_,_,_,_,_,_,_,_,_,_⟩:=V1.out.all)|(go_at_call 7;refine (C2.out _ zb2).mono ?_;rintro e w2 ⟨rfl,hb2⟩)|(go_at_call 8;refine (CT.out _ zb2).mono ?_;rintro e w3 ⟨rfl,hb3⟩)|go_skip|go_guarded|go_step|go_upon|(dsimp only []))
  exact za7zk1
theorem Asks_go (a:Option Addr) (n c:Nat) (kind:Int) (neg:Bool) (V bits:Nat) (text:ByteArray) (aL:Option Addr) (nL cL:Nat) (kids:Nat→VT) (aK:Option Addr) (nK cK:Nat) (keys:Nat→ByteArray) (p:Bool) (F:VT) (w:World)
  (C1:Hid (∀ wr:World,Below w.heap.size w wr→Calls Tryz.prog 6 #[.slice a n c] wr fun e w'=>e=.returned (.bool true)∧Below wr.heap.size wr w'))
  (C2:Hid (∀ wr:World,Below w.heap.size w wr→Calls Tryz.prog 7 #[.agg #[.int .i64 kind,.bool neg,.int .u64 (lm V 0:Nat),.int .u64 (lm V 1:Nat),.int .u64 (lm V 2:Nat),.int .u64 (lm V 3:Nat),.int .u64 (bits:Nat),.string text,.slice aL nL cL,.slice aK nK cK]] wr fun e w'=>e=.returned (.bool true)∧Below wr.heap.size wr w'))
  (C3:Hid (∀ wr:World,Below w.heap.size w wr→Calls Tryz.prog 9 #[.slice a n c,.agg #[.int .i64 kind,.bool neg,.int .u64 (lm V 0:Nat),.int .u64 (lm V 1:Nat),.int .u64 (lm V 2:Nat),.int .u64 (lm V 3:Nat),.int .u64 (bits:Nat),.string text,.slice aL nL cL,.slice aK nK cK]] wr (NormQ wr (.mk kind neg V bits text aL nL cL kids aK nK cK keys) F p)))
  (C4:Hid (∀ wr:World,Below w.heap.size w wr→Calls Tryz.prog 10 #[.slice a n c,.agg #[.int .i64 kind,.bool neg,.int .u64 (lm V 0:Nat),.int .u64 (lm V 1:Nat),.int .u64 (lm V 2:Nat),.int .u64 (lm V 3:Nat),.int .u64 (bits:Nat),.string text,.slice aL nL cL,.slice aK nK cK]] wr (NormQ wr (.mk kind neg V bits text aL nL cL kids aK nK cK keys) F p)))
  (C5:Hid (∀ wr:World,Below w.heap.size w wr→Calls Tryz.prog 11 #[.slice a n c,.agg #[.int .i64 kind,.bool neg,.int .u64 (lm V 0:Nat),.int .u64 (lm V 1:Nat),.int .u64 (lm V 2:Nat),.int .u64 (lm V 3:Nat),.int .u64 (bits:Nat),.string text,.slice aL nL cL,.slice aK nK cK]] wr fun e w'=>e=.returned (.bool p)∧Below wr.heap.size wr w'))
  (C6:Hid (∀ wr:World,Below w.heap.size w wr→Calls Tryz.prog 12 #[.slice a n c,.agg #[.int .i64 kind,.bool neg,.int .u64 (lm V 0:Nat),.int .u64 (lm V 1:Nat),.int .u64 (lm V 2:Nat),.int .u64 (lm V 3:Nat),.int .u64 (bits:Nat),.string text,.slice aL nL cL,.slice aK nK cK]] wr fun e w'=>e=.returned (.bool p)∧Below wr.heap.size wr w'))
  (CT:Hid (∀ wr:World,Below w.heap.size w wr→Calls Tryz.prog 8 #[] wr fun e w'=>e=.returned (.bool true)∧Below wr.heap.size wr w')) :
  Calls Tryz.prog 3 #[.slice a n c,.agg #[.int .i64 kind,.bool neg,.int .u64 (lm V 0:Nat),.int .u64 (lm V 1:Nat),.int .u64 (lm V 2:Nat),.int .u64 (lm V 3:Nat),.int .u64 (bits:Nat),.string text,.slice aL nL cL,.slice aK nK cK]] w fun e w'=>e=.returned (.bool true)∧Below w.heap.size w w':=by
 go_enter Tryz.func3,Tryz.ntmps3
 go_upto_region 1 with fail
 have V0:=Lib.hid (vbx_new w 31 kind neg V bits text aL nL cL aK nK cK)
 have hW0:=below_alloc (Below.refl w.heap.size w) (.cells #[.int .i64 kind,.bool neg,.int .u64 (lm V 0:Nat),.int .u64 (lm V 1:Nat),.int .u64 (lm V 2:Nat),.int .u64 (lm V 3:Nat),.int .u64 (bits:Nat),.string text,.slice aL nL cL,.slice aK nK cK] 31)
 generalize w.alloc (.cells #[.int .i64 kind,.bool neg,.int .u64 (lm V 0:Nat),.int .u64 (lm V 1:Nat),.int .u64 (lm V 2:Nat),.int .u64 (lm V 3:Nat),.int .u64 (bits:Nat),.string text,.slice aL nL cL,.slice aK nK cK] 31)=w0 at *
 obtain ⟨B0,hB0⟩:∃ B,B=w.heap.size:=⟨_,rfl⟩
 rw [← hB0] at V0 ⊢
 clear hB0
 go_upto_region 3 with (first|(go_at_call 6;with_reducible refine (C1.out _ hW0).mono ?_;rintro e w1 ⟨rfl,hb1⟩;(first|have V1:=Lib.hid (V0.out.below hb1)|have V1:=Lib.hid (V0.out.step hb1));obtain ⟨_,_,_,_,_,_,_,_,_,_⟩:=V1.out.all)|(go_at_call 7;with_reducible refine (C2.out _ (below_trans hW0 hb1)).mono ?_;rintro e w2 ⟨rfl,hb2⟩;(first|have V2:=Lib.hid (V1.out.below hb2)|have V2:=Lib.hid (V1.out.step hb2));obtain ⟨_,_,_,_,_,_,_,_,_,_⟩:=V2.out.all))
 have hW2:=below_trans hW0 (below_trans hb1 hb2)
 go_upto_region 4 with (go_at_call 9;(with_reducible refine (C3.out _ hW2).mono ?_);rintro e w3 ⟨ta,rfl,hi3,hp3,hz3,hb3⟩;have HP3:=Lib.hid hp3;have HZ3:=Lib.hid hz3;clear hp3 hz3;obtain ⟨kinda,nega,Va,bitsa,texta,aLa,nLa,cLa,kidsa,aKa,nKa,cKa,keysa,rfl⟩:=VT.In.lit hi3;simp only [VT.agg,VT.cells])
 have V3:=Lib.hid (V2.out.below hb3)
 have A3:=Lib.hid (vbx_new w3 31 kinda nega Va bitsa texta aLa nLa cLa aKa nKa cKa)
 have hV4:=below_alloc (Below.refl w3.heap.size w3) (.cells #[.int .i64 kinda,.bool nega,.int .u64 (lm Va 0:Nat),.int .u64 (lm Va 1:Nat),.int .u64 (lm Va 2:Nat),.int .u64 (lm Va 3:Nat),.int .u64 (bitsa:Nat),.string texta,.slice aLa nLa cLa,.slice aKa nKa cKa] 31)
 generalize w3.alloc (.cells #[.int .i64 kinda,.bool nega,.int .u64 (lm Va 0:Nat),.int .u64 (lm Va 1:Nat),.int .u64 (lm Va 2:Nat),.int .u64 (lm Va 3:Nat),.int .u64 (bitsa:Nat),.string texta,.slice aLa nLa cLa,.slice aKa nKa cKa] 31)=w4 at *
 obtain ⟨B1,hB1⟩:∃ B,B=w3.heap.size:=⟨_,rfl⟩
 rw [← hB1] at A3 ⊢
 clear hB1
 have V4:=Lib.hid (V3.out.below hV4)
 have hW4:=below_trans hW2 (below_trans hb3 hV4)
 have hi4:=VT.In.below hV4 _ hi3
 obtain ⟨_,_,_,_,_,_,_,_,_,_⟩:=V4.out.all
 go_upto_region 5 with (go_at_call 10;(with_reducible refine (C4.out _ hW4).mono ?_);rintro e w5 ⟨tb,rfl,hi5,hp5,hz5,hb5⟩;have HP5:=Lib.hid hp5;have HZ5:=Lib.hid hz5;clear hp5 hz5;obtain ⟨kindb,negb,Vb,bitsb,textb,aLb,nLb,cLb,kidsb,aKb,nKb,cKb,keysb,rfl⟩:=VT.In.lit hi5;simp only [VT.agg,VT.cells])
 have V5:=Lib.hid (V4.out.below hb5)
 have A5:=Lib.hid (A3.out.below hb5)
 have B5:=Lib.hid (vbx_new w5 31 kindb negb Vb bitsb textb aLb nLb cLb aKb nKb cKb)
 have hV6:=below_alloc (Below.refl w5.heap.size w5) (.cells #[.int .i64 kindb,.bool negb,.int .u64 (lm Vb 0:Nat),.int .u64 (lm Vb 1:Nat),.int .u64 (lm Vb 2:Nat),.int .u64 (lm Vb 3:Nat),.int .u64 (bitsb:Nat),.string textb,.slice aLb nLb cLb,.slice aKb nKb cKb] 31)
 generalize w5.alloc (.cells #[.int .i64 kindb,.bool negb,.int .u64 (lm Vb 0:Nat),.int .u64 (lm Vb 1:Nat),.int .u64 (lm Vb 2:Nat),.int .u64 (lm Vb 3:Nat),.int .u64 (bitsb:Nat),.string textb,.slice aLb nLb cLb,.slice aKb nKb cKb] 31)=w6 at *
 obtain ⟨B2,hB2⟩:∃ B,B=w5.heap.size:=⟨_,rfl⟩
 rw [← hB2] at B5 ⊢
 clear hB2
 have V6:=Lib.hid (V5.out.below hV6)
 have A6:=Lib.hid (A5.out.below hV6)
 have hW6:=below_trans hW4 (below_trans hb5 hV6)
 have hi6:=VT.In.below (below_trans hb5 hV6) _ hi4
 have hj6:=VT.In.below hV6 _ hi5
 have CS:=Lib.hid fun wx (hx:Below w6.heap.size w6 wx)=>(by
  have h:=RSame_any (.mk kinda nega Va bitsa texta aLa nLa cLa kidsa aKa nKa cKa keysa) (.mk kindb negb Vb bitsb textb aLb nLb cLb kidsb aKb nKb cKb keysb) wx (VT.In.below hx _ hi6) (VT.In.below hx _ hj6)
  rwa [show VT.sameB (.mk kinda nega Va bitsa texta aLa nLa cLa kidsa aKa nKa cKa keysa) (.mk kindb negb Vb bitsb textb aLb nLb cLb kidsb aKb nKb cKb keysb)=true from (NormQ.sim HP3.out HZ3.out).trans (NormQ.sim HP5.out HZ5.out).symm] at h :
  Calls Tryz.prog 13 #[VT.agg (.mk kinda nega Va bitsa texta aLa nLa cLa kidsa aKa nKa cKa keysa),VT.agg (.mk kindb negb Vb bitsb textb aLb nLb cLb kidsb aKb nKb cKb keysb)] wx fun e w'=>e=.returned (.bool true)∧Below wx.heap.size wx w')
 unfold VT.agg VT.cells at CS
 clear V0 V1 V2 V3 V4 V5 A3 A5 hi3 hi4 hi5 hi6 hj6 HP3 HZ3 HP5 HZ5 C1 C2 C3 C4
 (obtain ⟨C_,hC⟩:∃ C:World→Prop,C=fun w'=>Below (w6).heap.size (w6) w':=⟨_,rfl⟩;have HC:=Lib.hid hC;have hne:∀ p:Prop,(∀ w1:World,C_ w1→p)=p:=fun p=>propext ⟨fun h=>h (w6) z0i,fun h _ _=>h⟩;clear hC;refine wp_region_quiet_cls (C:=C_) z0a z0a z0g ?_)
 (go_big_quiet_want;go_big_quiet_op;refine ⟨.bool true,fun w1 hw1=>?_,?_⟩;(rw [HC.out] at hw1 ⊢;with_reducible refine (CT.out _ (below_trans hW6 hw1)).mono ?_;rintro e w4 ⟨rfl,hb4⟩;exact ⟨rfl,below_trans hw1 hb4⟩);go_big_quiet_on)
 (go_big_quiet_want;go_big_quiet_op;go_big_quiet_on)
 (go_big_quiet_want;go_big_quiet_op;go_big_quiet_on)
 (go_big_quiet_want;refine ⟨.agg #[.int .i64 kind,.bool neg,.int .u64 (lm V 0:Nat),.int .u64 (lm V 1:Nat),.int .u64 (lm V 2:Nat),.int .u64 (lm V 3:Nat),.int .u64 (bits:Nat),.string text,.slice aL nL cL,.slice aK nK cK],fun w1 hw1=>?_,?_⟩;(rw [HC.out] at hw1;obtain ⟨_,_,_,_,_⟩:=(V6.out.below hw1).all;simp [Oper.quietAt,go_sem, *]);refine za7zs1 ?_;go_big_quiet_on)
 (go_big_quiet_want;go_big_quiet_op;refine ⟨.bool p,fun w1 hw1=>?_,?_⟩;(rw [HC.out] at hw1 ⊢;with_reducible refine (C5.out _ (below_trans hW6 hw1)).mono ?_;rintro e w4 ⟨rfl,hb4⟩;exact ⟨rfl,below_trans hw1 hb4⟩);go_big_quiet_on)
 (go_big_quiet_want;go_big_quiet_op;go_big_quiet_on)
 (go_big_quiet_want;refine ⟨.agg #[.int .i64 kind,.bool neg,.int .u64 (lm V 0:Nat),.int .u64 (lm V 1:Nat),.int .u64 (lm V 2:Nat),.int .u64 (lm V 3:Nat),.int .u64 (bits:Nat),.string text,.slice aL nL cL,.slice aK nK cK],fun w1 hw1=>?_,?_⟩;(rw [HC.out] at hw1;obtain ⟨_,_,_,_,_⟩:=(V6.out.below hw1).all;simp [Oper.quietAt,go_sem, *]);refine za7zs1 ?_;go_big_quiet_on)
 (go_big_quiet_want;go_big_quiet_op;refine ⟨.bool p,fun w1 hw1=>?_,?_⟩;(rw [HC.out] at hw1 ⊢;with_reducible refine (C6.out _ (below_trans hW6 hw1)).mono ?_;rintro e w4 ⟨rfl,hb4⟩;exact ⟨rfl,below_trans hw1 hb4⟩);go_big_quiet_on)
 (go_big_quiet_want;go_big_quiet_op;go_big_quiet_on)
 (go_big_quiet_want;go_big_quiet_op;go_big_quiet_on)
 (go_big_quiet_want;go_big_quiet_op;go_big_quiet_on)
 (go_big_quiet_want;go_big_quiet_op;go_big_quiet_on)
 (go_big_quiet_want;go_big_quiet_op;go_big_quiet_on)
 (go_big_quiet_want;go_big_quiet_op;go_big_quiet_on)
 (go_big_quiet_want;go_big_quiet_op;go_big_quiet_on)
 (go_big_quiet_want;go_big_quiet_op;go_big_quiet_on)
 (go_big_quiet_want;refine ⟨.agg #[.int .i64 kinda,.bool nega,.int .u64 (lm Va 0:Nat),.int .u64 (lm Va 1:Nat),.int .u64 (lm Va 2:Nat),.int .u64 (lm Va 3:Nat),.int .u64 (bitsa:Nat),.string texta,.slice aLa nLa cLa,.slice aKa nKa cKa],fun w1 hw1=>?_,?_⟩;(rw [HC.out] at hw1;obtain ⟨_,_,_,_,_⟩:=(A6.out.below hw1).all;simp [Oper.quietAt,go_sem, *]);refine za7zs1 ?_;go_big_quiet_on)
 (go_big_quiet_want;refine ⟨.agg #[.int .i64 kindb,.bool negb,.int .u64 (lm Vb 0:Nat),.int .u64 (lm Vb 1:Nat),.int .u64 (lm Vb 2:Nat),.int .u64 (lm Vb 3:Nat),.int .u64 (bitsb:Nat),.string textb,.slice aLb nLb cLb,.slice aKb nKb cKb],fun w1 hw1=>?_,?_⟩;(rw [HC.out] at hw1;obtain ⟨_,_,_,_,_⟩:=(B5.out.below hw1).all;simp [Oper.quietAt,go_sem, *]);refine za7zs1 ?_;go_big_quiet_on)
 (go_big_quiet_want;go_big_quiet_op;refine ⟨.bool true,fun w1 hw1=>?_,?_⟩;(rw [HC.out] at hw1 ⊢;with_reducible refine (CS.out _ hw1).mono ?_;rintro e w4 ⟨rfl,hb4⟩;exact ⟨rfl,below_trans hw1 hb4⟩);go_big_quiet_on)
 (go_big_quiet_want;go_big_quiet_op;go_big_quiet_on)
 (go_big_quiet_want;go_big_quiet_op;go_big_quiet_on)
 (refine wpQuiet_nil ?_;intro w2 hw2;rw [HC.out] at hw2)
 repeat any_goals (first|go_skip|go_guarded|go_step|go_upon|(simp only [];done))
 exact za7zk1
theorem Sim.keep {f:PF} {x y:VT} (h:Sim x y):keepF f x=keepF f y:=by
 cases x with
 | nil=>exact h.nil_l.elim
 | mk=>
  cases y with
  | nil=>exact h.nil_r.elim
  | mk=>
   obtain ⟨⟨rfl,rfl,rfl,rfl,rfl,rfl,rfl⟩,-,-⟩:=sim_mk.1 h
   rfl
theorem Asks_any (M:Nat→PM) (a:Option Addr) (n c:Nat) (T:VT) (w:World) (hL:PL w a n c M) (hin:T.In w) (hU:U8T w) (hT:Tab w)
  (CT:Hid (∀ wr:World,Below w.heap.size w wr→Calls Tryz.prog 8 #[] wr fun e w'=>e=.returned (.bool true)∧Below wr.heap.size wr w')) :
  Calls Tryz.prog 3 #[.slice a n c,T.agg] w fun e w'=>e=.returned (.bool true)∧Below w.heap.size w w':=by
 have C1:=Lib.hid fun wr (hx:Below w.heap.size w wr)=>PFew_any a n c M wr (hL.below hx)
 have C2:=Lib.hid fun wr (hx:Below w.heap.size w wr)=>Few_any T wr (VT.In.below hx _ hin)
 by_cases hf:(fewP M n && decide (T.few 40≤400))=true
 ·rw [Bool.and_eq_true] at hf
  rw [hf.1] at C1
  rw [hf.2] at C2
  have hn:T.nodes < 4611686018427387904:=by
   have h:=of_decide_eq_true hf.2
   have:=(VT.few_nodes _ 40 h).1
   omega
  have C3:=Lib.hid fun wr (hx:Below w.heap.size w wr)=>PNormV_any M a n c T wr (hL.below hx) (VT.In.below hx _ hin) (Utf8Tabs_below hU hx) (hT.below hx) hn
  have C4:=Lib.hid fun wr (hx:Below w.heap.size w wr)=>RNormV_any M a n c T wr (hL.below hx) (VT.In.below hx _ hin) hn
  have C5:=Lib.hid fun wr (hx:Below w.heap.size w wr)=>PValidM_any M a n c T wr (hL.below hx) (VT.In.below hx _ hin) (Utf8Tabs_below hU hx) (hT.below hx) hn
  have C6:=Lib.hid fun wr (hx:Below w.heap.size w wr)=>RValidM_any M a n c T wr (hL.below hx) (VT.In.below hx _ hin) hn
  cases T with
  | nil=>exact hin.elim
  | mk kind neg V bits text aL nL cL kids aK nK cK keys=>exact Asks_go a n c kind neg V bits text aL nL cL kids aK nK cK keys _ _ w C1 C2 C3 C4 C5 C6 CT
 ·rw [Bool.not_eq_true] at hf
  cases T with
  | nil=>exact hin.elim
  | mk kind neg V bits text aL nL cL kids aK nK cK keys=>exact Asks_few a n c kind neg V bits text aL nL cL aK nK cK _ _ hf w C1 C2 CT
theorem PvalidAsks_any (a:Option Addr) (n c:Nat) (M:Nat→PM) (T:VT) (W:World) (hL:PL W a n c M) (hin:T.In W) (hU:U8T W) (hT:Tab W) :
  Calls Tryz.prog 3 #[.slice a n c,T.agg] W fun e w'=>e=.returned (.bool true)∧Below W.heap.size W w':=
 Asks_any M a n c T W hL hin hU hT (Lib.hid fun wr hx=>told23_any wr (Utf8Tabs_below hU hx) (hT.below hx))
end Go.Proofs.YtfondldmmcmloaaGreatDoor
