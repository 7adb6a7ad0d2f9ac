/- Tail, NrD, NrF, NrE, NrG, NrI, NrH, Tk0, Tk1. -/
import Derived.Test.YtfondldmmcmloaaGreatDoorPb30
set_option maxRecDepth 1000000
set_option maxHeartbeats 8000000
namespace Go.Proofs.YtfondldmmcmloaaGreatDoor
open Go.RowKit
structure NdW (w W:World) (Bv Br:Nat) (kind:Int) (neg:Bool) (V bits:Nat) (text:ByteArray) (aL:Option Addr) (nL cL:Nat) (aK:Option Addr) (nK cK:Nat):Prop where
 v:VBx W Bv kind neg V bits text aL nL cL aK nK cK
 r:WBx W Br (.int .i64 0) (.bool false) (.int .u64 0) (.int .u64 0) (.int .u64 0) (.int .u64 0) (.int .u64 0) (.string ⟨#[]⟩) (.slice none 0 0) (.slice none 0 0)
 b:Below w.heap.size w W
 l:w.heap.size≤Br
theorem nd_start (w:World) (t2:TypeId) (kind:Int) (neg:Bool) (V bits:Nat) (text:ByteArray) (aL:Option Addr) (nL cL:Nat) (aK:Option Addr) (nK cK:Nat) :
  NdW w ((w.alloc (.cells #[.int .i64 kind,.bool neg,.int .u64 (lm V 0:Nat),.int .u64 (lm V 1:Nat),.int .u64 (lm V 2:Nat),.int .u64 (lm V 3:Nat),.int .u64 (bits:Nat),.string text,.slice aL nL cL,.slice aK nK cK] t2)).alloc (.cells #[.int .i64 0,.bool false,.int .u64 0,.int .u64 0,.int .u64 0,.int .u64 0,.int .u64 0,.string ⟨#[]⟩,.slice none 0 0,.slice none 0 0] t2)) w.heap.size (w.heap.size+1) kind neg V bits text aL nL cL aK nK cK:=
 ⟨⟨by simp [go_sem]⟩,⟨⟨by simp [go_sem]⟩,fun j=>by simp [go_sem]⟩,zb2,by omega⟩
structure NrS2 (w:World) (Bx Bo Bv kb kx:Nat) (kind:Int) (neg:Bool) (V bits:Nat) (text:ByteArray) (aL:Option Addr) (nL cL:Nat) (aK:Option Addr) (nK cK:Nat) (lv kv kk:Value) (s:ByteArray):Prop where
 y:NrS w Bx Bo kind neg V bits text aL nL cL aK nK cK lv kv
 v:w.cell? ⟨Bv,9,none⟩=some kk
 k:w.cell? ⟨kb,kx,none⟩=some (.string s)
theorem NrS2.all {w:World} {Bx Bo Bv kb kx:Nat} {kind:Int} {neg:Bool} {V bits:Nat} {text:ByteArray} {aL:Option Addr} {nL cL:Nat} {aK:Option Addr} {nK cK:Nat} {lv kv kk:Value} {s:ByteArray} (h:NrS2 w Bx Bo Bv kb kx kind neg V bits text aL nL cL aK nK cK lv kv kk s) :
  w.cell? ⟨Bv,9,none⟩=some kk∧w.cell? ⟨kb,kx,none⟩=some (.string s)∧w.cell? ⟨Bx,0,none⟩=some (.int .i64 kind)∧w.cell? ⟨Bx,1,none⟩=some (.bool neg)∧w.cell? ⟨Bx,2,none⟩=some (.int .u64 (lm V 0:Nat))∧w.cell? ⟨Bx,3,none⟩=some (.int .u64 (lm V 1:Nat))∧w.cell? ⟨Bx,4,none⟩=some (.int .u64 (lm V 2:Nat)) ∧
  w.cell? ⟨Bx,5,none⟩=some (.int .u64 (lm V 3:Nat))∧w.cell? ⟨Bx,6,none⟩=some (.int .u64 (bits:Nat))∧w.cell? ⟨Bx,7,none⟩=some (.string text)∧w.cell? ⟨Bx,8,none⟩=some (.slice aL nL cL)∧w.cell? ⟨Bx,9,none⟩=some (.slice aK nK cK)∧w.cell? ⟨Bo,8,none⟩=some lv∧w.cell? ⟨Bo,9,none⟩=some kv:=⟨h.v,h.k,h.y.all⟩
theorem NrS2.below {w w':World} {Bx Bo Bv kb kx:Nat} {kind:Int} {neg:Bool} {V bits:Nat} {text:ByteArray} {aL:Option Addr} {nL cL:Nat} {aK:Option Addr} {nK cK:Nat} {lv kv kk:Value} {s:ByteArray} (h:NrS2 w Bx Bo Bv kb kx kind neg V bits text aL nL cL aK nK cK lv kv kk s) (hb:Below w.heap.size w w'):NrS2 w' Bx Bo Bv kb kx kind neg V bits text aL nL cL aK nK cK lv kv kk s:=
 ⟨h.y.below hb,keep_cell hb h.v,keep_cell hb h.k⟩
theorem NrS2.grown {w w':World} {r:Option Nat} {Bx Bo Bv kb kx:Nat} {kind:Int} {neg:Bool} {V bits:Nat} {text:ByteArray} {aL:Option Addr} {nL cL:Nat} {aK:Option Addr} {nK cK:Nat} {lv kv kk:Value} {s:ByteArray} (h:NrS2 w Bx Bo Bv kb kx kind neg V bits text aL nL cL aK nK cK lv kv kk s) (hg:w.grownBy w' r) (h1:some Bx≠r) (h2:some Bo≠r) (h3:some Bv≠r) (h4:some kb≠r):NrS2 w' Bx Bo Bv kb kx kind neg V bits text aL nL cL aK nK cK lv kv kk s:=
 ⟨h.y.grown hg h1 h2,hg.cell h.v h3,hg.cell h.k h4⟩
structure NrJ (wr w7 wq:World) (By:Nat) (kind:Int) (aK:Option Addr) (nK cK:Nat) (q:Nat) (kids F tq:Nat→VT) (lv:Value):Prop where
 o:WBx wq By (.int .i64 kind) (.bool false) (.int .u64 0) (.int .u64 0) (.int .u64 0) (.int .u64 0) (.int .u64 0) (.string ⟨#[]⟩) lv (.slice aK nK cK)
 l:wq.ownsRow w7.heap.size 31 10 lv q (rowV tq q)
 t:∀ i,i < q→NrT wr wq (kids i) (F i) (tq i)∧(tq i).Blk (fun b=>(b < wr.heap.size∨w7.heap.size≤b)∧some b≠lv.ownBlock)
 b:But By By w7 wq
theorem blk_and {Q R:Nat→Prop}:∀ {x:VT},x.Blk Q→x.Blk R→x.Blk (fun b=>Q b∧R b):=by
 intro x
 induction x with
 | nil=>exact fun _ _=>trivial
 | mk kind neg V bits text aL nL cL kids aK nK cK keys ih=>
  rintro ⟨a1,a2,a3⟩ ⟨b1,b2,b3⟩
  refine ⟨?_,?_,fun i hi=>ih i (a3 i hi) (b3 i hi)⟩
  ·rcases a1 with a1|a1
   ·exact .inl a1
   ·rcases b1 with b1|b1
    ·exact .inl b1
    ·exact .inr fun ad e=>⟨a1 ad e,b1 ad e⟩
  ·rcases a2 with a2|a2
   ·exact .inl a2
   ·rcases b2 with b2|b2
    ·exact .inl b2
    ·exact .inr fun ad e=>⟨a2 ad e,b2 ad e⟩
theorem FBx.same {w w':World} {B:Nat} {nm ty:ByteArray} {nu:Int} {op re ma:Bool} (h:FBx w B nm ty nu op re ma) (hk:w'.heap[B]? = w.heap[B]?):FBx w' B nm ty nu op re ma:=by
 have e:∀ j,w'.cell? ⟨B,j,none⟩=w.cell? ⟨B,j,none⟩:=fun j=>World.cell?_of_block (a:=⟨B,j,none⟩) hk
 obtain ⟨h0,h1,h2,h3,h4,h5⟩:=h.all
 exact ⟨by rw [e];exact h0,by rw [e];exact h1,by rw [e];exact h2,by rw [e];exact h3,by rw [e];exact h4,by rw [e];exact h5⟩
theorem NrJ.start {wr w7:World} {By:Nat} {kind:Int} {aK:Option Addr} {nK cK:Nat} {kids F tq:Nat→VT} (o:WBx w7 By (.int .i64 kind) (.bool false) (.int .u64 0) (.int .u64 0) (.int .u64 0) (.int .u64 0) (.int .u64 0) (.string ⟨#[]⟩) (.slice none 0 0) (.slice aK nK cK)):NrJ wr w7 w7 By kind aK nK cK 0 kids F tq (.slice none 0 0):=
 ⟨o,World.ownsRow_nil _ _ _ _,fun _i hi=>absurd hi (Nat.not_lt_zero _),But.of (Below.refl _ _)⟩
theorem NrJ.push {wr w7 wq w9 w10:World} {By:Nat} {kind:Int} {aK:Option Addr} {nK cK q:Nat} {kids F tq:Nat→VT} {lv lv1:Value} {T:VT} (h:NrJ wr w7 wq By kind aK nK cK q kids F tq lv) (h0:wr.heap.size≤By) (h1:By < w7.heap.size) (hb:Below wq.heap.size wq w9) (hg:w9.grownBy w10 lv.ownBlock)
  (hn:lv1.ownBlock=lv.ownBlock∨lv1.ownBlock=some w9.heap.size) (ho:w10.ownsRow w7.heap.size 31 10 lv1 (q+1) (rowV tq q ++ T.cells)) (hT:NrT wr w9 (kids q) (F q) T) (hTb:T.Blk (fun b=>b < wr.heap.size∨wq.heap.size≤b)) :
  ∃ tq':Nat→VT,NrJ wr w7 (w10.setCell ⟨By,8,none⟩ lv1) By kind aK nK cK (q+1) kids F tq' lv1:=by
 obtain ⟨tq',ht'⟩:∃ t':Nat→VT,t'=fun i=>if i < q then tq i else T:=⟨_,rfl⟩
 have e1:∀ i,i < q→tq' i=tq i:=fun i hi=>by rw [ht'];exact if_pos hi
 have e2:tq' q=T:=by rw [ht'];exact if_neg (Nat.lt_irrefl _)
 have s0:=h.b.size
 have s1:=hb.size
 have s2:=hg.size
 have hlt:=h.l.lt
 have hBy:some By≠lv.ownBlock:=fun e=>by have:=(hlt By e.symm).1;omega
 have hO:WBx w10 By (.int .i64 kind) (.bool false) (.int .u64 0) (.int .u64 0) (.int .u64 0) (.int .u64 0) (.int .u64 0) (.string ⟨#[]⟩) lv (.slice aK nK cK):=(h.o.below hb).same (hg.block By (h.o.below hb).lt hBy)
 have hsz:w9.heap.size≤(w10.setCell ⟨By,8,none⟩ lv1).heap.size:=by simpa using s2
 have hk:∀ b,b < w9.heap.size→((b < wr.heap.size∨w7.heap.size≤b)∧some b≠lv.ownBlock)→(w10.setCell ⟨By,8,none⟩ lv1).heap[b]? = w9.heap[b]? := fun b hb2 hq=>by
  rw [block_setCell (by have:=hq.1;omega)]
  exact hg.block b hb2 hq.2
 have hT2:T.Blk (fun b=>(b < wr.heap.size∨w7.heap.size≤b)∧some b≠lv.ownBlock):=hTb.mono fun b hb2=>⟨by omega,fun e=>by have:=hlt b e.symm;omega⟩
 have hoff:∀ {x:VT},x.In w9→x.Blk (fun b=>(b < wr.heap.size∨w7.heap.size≤b)∧some b≠lv.ownBlock)→x.Blk (fun b=>(b < wr.heap.size∨w7.heap.size≤b)∧some b≠lv1.ownBlock):=by
  intro x hx hq
  refine (blk_and hx.blk hq).mono fun b ⟨q0,q1,q2⟩=>⟨q1,?_⟩
  rcases hn with e|e
  ·rw [e];exact q2
  ·rw [e];intro c;injection c with c;omega
 refine ⟨tq',?_,own_setCell ?_ h1,fun i hi=>?_,?_⟩
 ·obtain ⟨hc,hf⟩:=hO
  obtain ⟨_,_,_,_,_,_,_,_,_,_⟩:=hc.all
  exact ⟨⟨by simp [go_sem, *]⟩,fun j=>by simp [go_sem, *]⟩
 ·rw [show rowV tq' (q+1)=rowV tq q ++ T.cells from by
   show rowV tq' q ++ (tq' q).cells=_
   rw [rowV_same e1,e2]]
  exact ho
 ·by_cases c:i < q
  ·rw [e1 i c]
   obtain ⟨a1,a2⟩:=h.t i c
   have a3:=a1.below hb
   exact ⟨⟨a3.i.kept hsz hk a2,a3.q,a3.s⟩,hoff a3.i a2⟩
  ·obtain rfl:i=q:=by omega
   rw [e2]
   exact ⟨⟨hT.i.kept hsz hk hT2,hT.q,hT.s⟩,hoff hT.i hT2⟩
 ·refine ⟨hg.os.trans (hb.os.trans h.b.os),hg.tape.trans (hb.tape.trans h.b.tape),hg.output.trans (hb.output.trans h.b.output),Nat.le_trans s0 (Nat.le_trans s1 hsz),fun b hb2 hne _=>?_⟩
  rw [block_setCell hne,hg.block b z0c (fun e=>by have:=(hlt b e.symm).1;omega),hb.block b z0c]
  exact h.b.block b hb2 hne hne
structure NrZ (w:World) (Bx Bf By g o:Nat) (aX:Option Addr) (nX cX:Nat) (ty:ByteArray) (lv:Value) (kind:Int) (neg:Bool) (V bits:Nat) (text:ByteArray) (aL:Option Addr) (nL cL:Nat) (aK:Option Addr) (nK cK:Nat):Prop where
 x:w.cell? ⟨Bx,8,none⟩=some (.slice aX nX cX)
 f:w.cell? ⟨Bf,1,none⟩=some (.string ty)
 y:w.cell? ⟨By,8,none⟩=some lv
 k:KBx w g o kind neg V bits text aL nL cL aK nK cK
theorem NrZ.all {w:World} {Bx Bf By g o:Nat} {aX:Option Addr} {nX cX:Nat} {ty:ByteArray} {lv:Value} {kind:Int} {neg:Bool} {V bits:Nat} {text:ByteArray} {aL:Option Addr} {nL cL:Nat} {aK:Option Addr} {nK cK:Nat} (h:NrZ w Bx Bf By g o aX nX cX ty lv kind neg V bits text aL nL cL aK nK cK) :
  w.cell? ⟨Bx,8,none⟩=some (.slice aX nX cX)∧w.cell? ⟨Bf,1,none⟩=some (.string ty)∧w.cell? ⟨By,8,none⟩=some lv∧w.cell? ⟨g,o,none⟩=some (.int .i64 kind)∧w.cell? ⟨g,o+1,none⟩=some (.bool neg)∧w.cell? ⟨g,o+2,none⟩=some (.int .u64 (lm V 0:Nat))∧w.cell? ⟨g,o+3,none⟩=some (.int .u64 (lm V 1:Nat))∧w.cell? ⟨g,o+4,none⟩=some (.int .u64 (lm V 2:Nat)) ∧
  w.cell? ⟨g,o+5,none⟩=some (.int .u64 (lm V 3:Nat))∧w.cell? ⟨g,o+6,none⟩=some (.int .u64 (bits:Nat))∧w.cell? ⟨g,o+7,none⟩=some (.string text)∧w.cell? ⟨g,o+8,none⟩=some (.slice aL nL cL)∧w.cell? ⟨g,o+9,none⟩=some (.slice aK nK cK):=by
 obtain ⟨h0,h1,h2,h3,h4,h5,h6,h7,h8,h9⟩:=h.k.all
 exact ⟨h.x,h.f,h.y,h0,h1,h2,h3,h4,h5,h6,h7,h8,h9⟩
theorem NrZ.below {w w':World} {Bx Bf By g o:Nat} {aX:Option Addr} {nX cX:Nat} {ty:ByteArray} {lv:Value} {kind:Int} {neg:Bool} {V bits:Nat} {text:ByteArray} {aL:Option Addr} {nL cL:Nat} {aK:Option Addr} {nK cK:Nat} (h:NrZ w Bx Bf By g o aX nX cX ty lv kind neg V bits text aL nL cL aK nK cK) (hb:Below w.heap.size w w'):NrZ w' Bx Bf By g o aX nX cX ty lv kind neg V bits text aL nL cL aK nK cK:=
 ⟨keep_cell hb h.x,keep_cell hb h.f,keep_cell hb h.y,h.k.below hb⟩
theorem NrZ.grown {w w':World} {r:Option Nat} {Bx Bf By g o:Nat} {aX:Option Addr} {nX cX:Nat} {ty:ByteArray} {lv:Value} {kind:Int} {neg:Bool} {V bits:Nat} {text:ByteArray} {aL:Option Addr} {nL cL:Nat} {aK:Option Addr} {nK cK:Nat} (h:NrZ w Bx Bf By g o aX nX cX ty lv kind neg V bits text aL nL cL aK nK cK) (hg:w.grownBy w' r) (h1:some Bx≠r) (h2:some Bf≠r) (h3:some By≠r) (h4:some g≠r):NrZ w' Bx Bf By g o aX nX cX ty lv kind neg V bits text aL nL cL aK nK cK:=by
 obtain ⟨k0,k1,k2,k3,k4,k5,k6,k7,k8,k9⟩:=h.k.all
 exact ⟨hg.cell h.x h1,hg.cell h.f h2,hg.cell h.y h3,⟨⟨hg.cell k0 h4,hg.cell k1 h4,hg.cell k2 h4,hg.cell k3 h4,hg.cell k4 h4,hg.cell k5 h4,hg.cell k6 h4,hg.cell k7 h4,hg.cell k8 h4,hg.cell k9 h4⟩⟩⟩
theorem PNorm_yes (M:Nat→PM) (a:Option Addr) (n c:Nat) (kind:Int) (neg:Bool) (V bits:Nat) (text:ByteArray) (aL:Option Addr) (nL cL:Nat) (kids:Nat→VT) (aK:Option Addr) (nK cK:Nat) (keys:Nat→ByteArray) (w:World) (hL:PL w a n c M) (hin:VT.In w (.mk kind neg V bits text aL nL cL kids aK nK cK keys)) (hv:validB M n (.mk kind neg V bits text aL nL cL kids aK nK cK keys)=true) (hN:PNrm M a n c (.mk kind neg V bits text aL nL cL kids aK nK cK keys))
  (C1:Hid (∀ wr:World,Below w.heap.size w wr→Calls Tryz.prog 11 #[.slice a n c,.agg #[.int .i64 kind,.bool neg,.int .u64 (lm V 0:Nat),.int .u64 (lm V 1:Nat),.int .u64 (lm V 2:Nat),.int .u64 (lm V 3:Nat),.int .u64 (bits:Nat),.string text,.slice aL nL cL,.slice aK nK cK]] wr fun e w'=>e=.returned (.bool true)∧Below wr.heap.size wr w')) :
  Calls Tryz.prog 9 #[.slice a n c,VT.agg (.mk kind neg V bits text aL nL cL kids aK nK cK keys)] w fun e w'=>∃ t:VT,e=.returned (.tuple #[t.agg,.bool true])∧NrT w w' (.mk kind neg V bits text aL nL cL kids aK nK cK keys) ((nrm2 M n (.mk kind neg V bits text aL nL cL kids aK nK cK keys)).msg (M 0)) t∧Below w.heap.size w w':=by
 have HL:=Lib.hid hL
 have HIN:=Lib.hid hin
 have hv2:=hv
 unfold validB at hv2
 rw [Bool.and_eq_true,Bool.and_eq_true,decide_eq_true_eq] at hv2
 obtain ⟨hck,hmy,hmsg⟩:=hv2
 have hpos:=check_pos hck
 obtain ⟨-,-,hlg,hrt⟩:=may_right hmy
 have C3:=Lib.hid fun wx (hx:Below w.heap.size w wx)=>hN 0 wx hpos (HL.out.below hx) (VT.In.below hx _ HIN.out) hrt hlg hmsg
 obtain ⟨b,off,ea,-,hm4,-⟩:=m_lit hL hpos (Below.refl _ _)
 rw [Nat.zero_mul,Nat.add_zero] at hm4
 have HM4:=Lib.hid hm4
 have q5:=hL.l
 have q6:=hL.lc
 subst ea
 obtain ⟨m,hm⟩:∃ m,M 0=m:=⟨_,rfl⟩
 rw [hm] at C3 HM4 ⊢
 unfold VT.agg VT.cells at C3 ⊢
 unfold PM.agg at C3
 simp only [maxLen] at q6
 have i1:(0:Int) < (n:Int):=by omega
 clear hL hin hv hN hck hmy hmsg hlg hrt hm4 hm
 go_enter Tryz.func9,Tryz.ntmps9
 go_upto_region 1 with fail
 have NW:=Lib.hid (nd_start w 31 kind neg V bits text aL nL cL aK nK cK)
 generalize (w.alloc (.cells #[.int .i64 kind,.bool neg,.int .u64 (lm V 0:Nat),.int .u64 (lm V 1:Nat),.int .u64 (lm V 2:Nat),.int .u64 (lm V 3:Nat),.int .u64 (bits:Nat),.string text,.slice aL nL cL,.slice aK nK cK] 31)).alloc (.cells #[.int .i64 0,.bool false,.int .u64 0,.int .u64 0,.int .u64 0,.int .u64 0,.int .u64 0,.string ⟨#[]⟩,.slice none 0 0,.slice none 0 0] 31)=W at *
 obtain ⟨Bv,hBv⟩:∃ B,B=w.heap.size:=⟨_,rfl⟩
 obtain ⟨Br,hBr⟩:∃ B,B=w.heap.size+1:=⟨_,rfl⟩
 rw [← hBr,← hBv] at NW ⊢
 clear hBr hBv
 obtain ⟨_,_,_,_,_,_,_,_,_,_⟩:=NW.out.v.all
 go_upto_region 3 with (go_at_call 11;with_reducible refine (C1.out _ NW.out.b).mono ?_;rintro e w1 ⟨rfl,hb1⟩)
 have V1:=Lib.hid (NW.out.v.below hb1)
 have R1:=Lib.hid (NW.out.r.below hb1)
 have hW1:=below_trans NW.out.b hb1
 have hm4:=HM4.out.below hW1
 obtain ⟨_,_,_,_⟩:=hm4.all
 obtain ⟨_,_,_,_,_,_,_,_,_,_⟩:=V1.out.all
 (refine still_tail 5 z0a z0a ?_;simp only [List.take_succ_cons,List.take_zero,List.drop_succ_cons,List.drop_zero];(repeat still_step);refine wpStill_nil ?_)
 repeat any_goals (first|(go_at_call 18;with_reducible refine (C3.out _ (below_trans hW1 zb2)).mono ?_;rintro e w2 ⟨tt,rfl,hNT,hb2⟩;obtain ⟨kindt,negt,Vt,bitst,textt,aLt,nLt,cLt,kidst,aKt,nKt,cKt,keyst,rfl⟩:=VT.In.lit hNT.i;simp only;have hd2:Below w1.heap.size w1 w2:=below_trans zb2 hb2;have R2:=Lib.hid (R1.out.below hd2);obtain ⟨_,_,_,_,_,_,_,_,_,_⟩:=R2.out.c.all;have hf1:=R2.out.f;have hl1:=R2.out.lt;have hr0:=NW.out.l;have hW2:=below_trans hW1 hd2;have hl2:Br < w1.heap.size:=R1.out.lt)|go_skip|go_guarded|go_step|go_upon|(dsimp only []))
 have hb:∀ b,b≠Br→(((((((((((w2.setCell ⟨Br,0,none⟩ (.int .i64 kindt)).setCell ⟨Br,1,none⟩ (.bool negt)).setCell ⟨Br,2,none⟩ (.int .u64 (lm Vt 0:Nat))).setCell ⟨Br,3,none⟩ (.int .u64 (lm Vt 1:Nat))).setCell ⟨Br,4,none⟩ (.int .u64 (lm Vt 2:Nat))).setCell ⟨Br,5,none⟩ (.int .u64 (lm Vt 3:Nat))).setCell ⟨Br,6,none⟩ (.int .u64 (bitst:Nat))).setCell ⟨Br,7,none⟩ (.string textt)).setCell ⟨Br,8,none⟩ (.slice aLt nLt cLt)).setCell ⟨Br,9,none⟩ (.slice aKt nKt cKt))).heap[b]? = w2.heap[b]? := fun b hb=>set10_block hb
 have hs10:w2.heap.size≤(((((((((((w2.setCell ⟨Br,0,none⟩ (.int .i64 kindt)).setCell ⟨Br,1,none⟩ (.bool negt)).setCell ⟨Br,2,none⟩ (.int .u64 (lm Vt 0:Nat))).setCell ⟨Br,3,none⟩ (.int .u64 (lm Vt 1:Nat))).setCell ⟨Br,4,none⟩ (.int .u64 (lm Vt 2:Nat))).setCell ⟨Br,5,none⟩ (.int .u64 (lm Vt 3:Nat))).setCell ⟨Br,6,none⟩ (.int .u64 (bitst:Nat))).setCell ⟨Br,7,none⟩ (.string textt)).setCell ⟨Br,8,none⟩ (.slice aLt nLt cLt)).setCell ⟨Br,9,none⟩ (.slice aKt nKt cKt))).heap.size:=by simp
 exact bodyPost_ret (v:=.tuple #[.agg #[.int .i64 kindt,.bool negt,.int .u64 (lm Vt 0:Nat),.int .u64 (lm Vt 1:Nat),.int .u64 (lm Vt 2:Nat),.int .u64 (lm Vt 3:Nat),.int .u64 (bitst:Nat),.string textt,.slice aLt nLt cLt,.slice aKt nKt cKt],.bool true]) (by simp [results,Tryz.results9,go_sem, *]) rfl ⟨(.mk kindt negt Vt bitst textt aLt nLt cLt kidst aKt nKt cKt keyst),rfl,⟨hNT.i.kept hs10 (fun b _ h=>hb b h) (hNT.q (fun b=>b≠Br) (HIN.out.blk.mono fun b (h:b < w.heap.size)=>by omega) (fun b (h:w1.heap.size≤b)=>by omega)),fun Q h0 h1=>hNT.q Q h0 (fun b (h:w1.heap.size≤b)=>h1 b (Nat.le_trans hW1.size h)),hNT.s⟩,zb2⟩
def zeroT:VT:=.mk 0 false 0 0 ⟨#[]⟩ none 0 0 default none 0 0 default
theorem zeroT_in (w:World):zeroT.In w:=⟨⟨by decide,by decide,by decide,by decide,Nat.zero_le _,Nat.le_refl _,Nat.zero_le _,Nat.le_refl _,Nat.zero_le _⟩,.inl rfl,fun i hi=>absurd hi (Nat.not_lt_zero _),.inl rfl⟩
def NormQ (w:World) (T F:VT) (p:Bool) (e:Ending) (w':World):Prop:=
 ∃ t:VT,e=.returned (.tuple #[t.agg,.bool p])∧t.In w'∧(p=true→NrT w w' T F t)∧(p=false→t=zeroT)∧Below w.heap.size w w'
theorem PNormV_any (M:Nat→PM) (a:Option Addr) (n c:Nat) (T:VT) (w:World) (hL:PL w a n c M) (hin:T.In w) (hU:U8T w) (hT:Tab w) (hN:T.nodes < 4611686018427387904) :
  Calls Tryz.prog 9 #[.slice a n c,T.agg] w (NormQ w T ((nrm2 M n T).msg (M 0)) (validB M n T)):=by
 have C1:=Lib.hid fun wx (hx:Below w.heap.size w wx)=>PValidM_any M a n c T wx (hL.below hx) (VT.In.below hx _ hin) (Utf8Tabs_below hU hx) (hT.below hx) hN
 by_cases hv:validB M n T=true
 ·rw [hv] at C1 ⊢
  have hck:checkB M n=true:=by
   unfold validB at hv
   rw [Bool.and_eq_true] at hv
   exact hv.1
  have hNx:=(pnorm_all M a n c (check_types hck) (check_noscal hck) T).1
  cases T with
  | nil=>exact hin.elim
  | mk kind neg V bits text aL nL cL kids aK nK cK keys=>
   refine (PNorm_yes M a n c kind neg V bits text aL nL cL kids aK nK cK keys w hL hin hv hNx C1).mono ?_
   rintro e w' ⟨t,he,ht,hb⟩
   exact ⟨t,he,ht.i,fun _=>ht,fun h=>(by cases h),hb⟩
 ·rw [Bool.not_eq_true] at hv
  rw [hv] at C1 ⊢
  cases T with
  | nil=>exact hin.elim
  | mk kind neg V bits text aL nL cL kids aK nK cK keys=>
   refine (PNorm_no a n c kind neg V bits text aL nL cL aK nK cK w C1).mono ?_
   rintro e w' ⟨he,hb⟩
   exact ⟨zeroT,by rw [he];simp [zeroT,VT.agg,VT.cells,lm_none],zeroT_in w',fun h=>(by cases h),fun _=>rfl,hb⟩
def runTo (p:Nat→Bool) (n:Nat):Nat→Nat→Nat
 | 0,i=>i
 | f+1,i=>if i < n∧p i=true then runTo p n f (i+1) else i
def runE (p:Nat→Bool) (n i:Nat):Nat:=runTo p n (n - i) i
theorem runE_step {p:Nat→Bool} {n i:Nat} (h:i < n) (hp:p i=true):runE p n i=runE p n (i+1):=by
 unfold runE
 obtain ⟨k,hk⟩:∃ k,n - i=k+1:=⟨n - i - 1,by omega⟩
 rw [hk,show n - (i+1)=k by omega]
 simp only [runTo]
 rw [if_pos ⟨h,hp⟩]
theorem runE_stop {p:Nat→Bool} {n i:Nat} (h:¬ (i < n∧p i=true)):runE p n i=i:=by
 unfold runE
 cases n - i with
 | zero=>rfl
 | succ k=>simp only [runTo];rw [if_neg h]
theorem runTo_ge {p:Nat→Bool} {n:Nat}:∀ f i,i≤runTo p n f i:=by
 intro f
 induction f with
 | zero=>exact fun i=>Nat.le_refl _
 | succ f ih=>
  intro i
  simp only [runTo]
  split
  ·have:=ih (i+1);omega
  ·exact Nat.le_refl _
theorem runE_ge {p:Nat→Bool} {n i:Nat}:i≤runE p n i:=runTo_ge _ _
theorem runTo_le {p:Nat→Bool} {n:Nat}:∀ f i,i≤n→runTo p n f i≤n:=by
 intro f
 induction f with
 | zero=>exact fun i h=>h
 | succ f ih=>
  intro i h
  simp only [runTo]
  split
  ·rename_i c;exact ih (i+1) z0c
  ·exact h
theorem runE_le {p:Nat→Bool} {n i:Nat} (h:i≤n):runE p n i≤n:=runTo_le _ _ h
theorem runTo_all {p:Nat→Bool} {n:Nat}:∀ f i j,i≤j→j < runTo p n f i→p j=true:=by
 intro f
 induction f with
 | zero=>intro i j h1 h2;simp only [runTo] at h2;omega
 | succ f ih=>
  intro i j h1 h2
  simp only [runTo] at h2
  split at h2
  ·rename_i c
   by_cases e:i=j
   ·subst e;exact c.2
   ·exact ih (i+1) j z0c h2
  ·omega
def blankN (c:Nat):Bool:=decide (c=32) || (decide (c=9) || (decide (c=10) || decide (c=13)))
def signN (c:Nat):Bool:=decide (c=61) || (decide (c=59) || (decide (c=123) || (decide (c=125) || (decide (c=60) || (decide (c=62) || decide (c=44))))))
abbrev Tok:=Int × ByteArray
def remN (s:ByteArray) (i:Nat):Bool:=decide (byteN s i=47) && (decide (i+1 < s.size) && decide (byteN s (i+1)=47))
def wordE (s:ByteArray) (i:Nat):Nat:=runE (fun j=>wordN (byteN s j)) s.size (i+1)
def digE (s:ByteArray) (i:Nat):Nat:=runE (fun j=>digitN (byteN s j)) s.size (i+1)
def quoE (s:ByteArray) (i:Nat):Nat:=runE (fun j => !decide (byteN s j=34)) s.size (i+1)
def remE (s:ByteArray) (i:Nat):Nat:=runE (fun j => !decide (byteN s j=10)) s.size i
def tokN (s:ByteArray):Nat→Nat→Option (List Tok)
 | 0,_=>some []
 | f+1,i=>
  if s.size≤i then some []
  else if blankN (byteN s i)=true then tokN s f (i+1)
  else if remN s i=true then tokN s f (remE s i)
  else if letterN (byteN s i)=true then (tokN s f (wordE s i)).map ((1,s.extract i (wordE s i)) :: ·)
  else if digitN (byteN s i)=true then (if 9 < digE s i - i∨(byteN s i=48∧1 < digE s i - i) then none else (tokN s f (digE s i)).map ((2,s.extract i (digE s i)) :: ·))
  else if byteN s i=34 then (if quoE s i=s.size∨named (s.extract (i+1) (quoE s i))=false then none else (tokN s f (quoE s i+1)).map ((3,s.extract (i+1) (quoE s i)) :: ·))
  else if signN (byteN s i)=true then (tokN s f (i+1)).map ((4,s.extract i (i+1)) :: ·)
  else none
structure TkI (s:ByteArray) (F i f:Nat) (l:List Tok):Prop where
 e:tokN s F 0=(tokN s f i).map (l ++ ·)
 fu:s.size - i < f
 le:i≤s.size
 ln:l.length≤i
theorem TkI.start (s:ByteArray):TkI s (s.size+1) 0 (s.size+1) []:=⟨by cases tokN s (s.size+1) 0 <;> rfl,by omega,Nat.zero_le _,Nat.le_refl _⟩
theorem map_cons {o:Option (List Tok)} {l:List Tok} {t:Tok}:(o.map (t :: ·)).map (l ++ ·)=o.map ((l ++ [t]) ++ ·):=by
 cases o with
 | none=>rfl
 | some x=>simp
section
variable {s:ByteArray} {F i f:Nat} {l:List Tok}
theorem TkI.out (h:TkI s F i f l) (hi:i=s.size):tokN s F 0=some l:=by
 rw [h.e]
 have hf:=h.fu
 cases f with
 | zero=>omega
 | succ f=>
  simp only [tokN]
  rw [if_pos z0c]
  simp
theorem TkI.blank (h:TkI s F i f l) (hi:i < s.size) (hb:blankN (byteN s i)=true):∃ f',TkI s F (i+1) f' l:=by
 have hf:=h.fu
 cases f with
 | zero=>omega
 | succ f=>
  refine ⟨f,?_,by omega,by omega,by have:=h.ln;omega⟩
  rw [h.e]
  simp only [tokN]
  rw [if_neg z0c,if_pos hb]
theorem TkI.rem (h:TkI s F i f l) (hi:i < s.size) (hb:blankN (byteN s i)=false) (hr:remN s i=true):∃ f',TkI s F (remE s i) f' l:=by
 have hf:=h.fu
 have hp:byteN s i=47:=by
  unfold remN at hr
  rw [Bool.and_eq_true] at hr
  exact of_decide_eq_true hr.1
 have hg:i+1≤remE s i:=by
  unfold remE
  rw [runE_step hi (by rw [hp];rfl)]
  exact runE_ge
 have hle:remE s i≤s.size:=runE_le h.le
 cases f with
 | zero=>omega
 | succ f=>
  refine ⟨f,?_,by omega,hle,by have:=h.ln;omega⟩
  rw [h.e]
  simp only [tokN]
  rw [if_neg z0c,if_neg z0y,if_pos hr]
theorem TkI.word (h:TkI s F i f l) (hi:i < s.size) (hb:blankN (byteN s i)=false) (hr:remN s i=false) (hc:letterN (byteN s i)=true):∃ f',TkI s F (wordE s i) f' (l ++ [(1,s.extract i (wordE s i))]):=by
 have hf:=h.fu
 have hg:i+1≤wordE s i:=runE_ge
 have hle:wordE s i≤s.size:=runE_le hi
 cases f with
 | zero=>omega
 | succ f=>
  refine ⟨f,?_,by omega,hle,by have:=h.ln;rw [List.length_append];simp;omega⟩
  rw [h.e]
  simp only [tokN]
  rw [if_neg z0c,if_neg z0y,if_neg z0n1,if_pos hc,map_cons]
theorem TkI.digN (h:TkI s F i f l) (hi:i < s.size) (hb:blankN (byteN s i)=false) (hr:remN s i=false) (hc:letterN (byteN s i)=false) (hd:digitN (byteN s i)=true) (hx:9 < digE s i - i∨(byteN s i=48∧1 < digE s i - i)):tokN s F 0=none:=by
 have hf:=h.fu
 cases f with
 | zero=>omega
 | succ f=>
  rw [h.e]
  simp only [tokN]
  rw [if_neg z0c,if_neg z0y,if_neg z0n1,if_neg (by rw [hc];exact Bool.false_ne_true),if_pos hd,if_pos hx]
  rfl
theorem TkI.dig (h:TkI s F i f l) (hi:i < s.size) (hb:blankN (byteN s i)=false) (hr:remN s i=false) (hc:letterN (byteN s i)=false) (hd:digitN (byteN s i)=true) (hx:¬ (9 < digE s i - i∨(byteN s i=48∧1 < digE s i - i))):∃ f',TkI s F (digE s i) f' (l ++ [(2,s.extract i (digE s i))]):=by
 have hf:=h.fu
 have hg:i+1≤digE s i:=runE_ge
 have hle:digE s i≤s.size:=runE_le hi
 cases f with
 | zero=>omega
 | succ f=>
  refine ⟨f,?_,by omega,hle,by have:=h.ln;rw [List.length_append];simp;omega⟩
  rw [h.e]
  simp only [tokN]
  rw [if_neg z0c,if_neg z0y,if_neg z0n1,if_neg (by rw [hc];exact Bool.false_ne_true),if_pos hd,if_neg hx,map_cons]
theorem TkI.quoN (h:TkI s F i f l) (hi:i < s.size) (hb:blankN (byteN s i)=false) (hr:remN s i=false) (hc:letterN (byteN s i)=false) (hd:digitN (byteN s i)=false) (hq:byteN s i=34) (hx:quoE s i=s.size∨named (s.extract (i+1) (quoE s i))=false):tokN s F 0=none:=by
 have hf:=h.fu
 cases f with
 | zero=>omega
 | succ f=>
  rw [h.e]
  simp only [tokN]
  rw [if_neg z0c,if_neg z0y,if_neg z0n1,if_neg (by rw [hc];exact Bool.false_ne_true),if_neg (by rw [hd];exact Bool.false_ne_true),if_pos hq,if_pos hx]
  rfl
theorem TkI.quo (h:TkI s F i f l) (hi:i < s.size) (hb:blankN (byteN s i)=false) (hr:remN s i=false) (hc:letterN (byteN s i)=false) (hd:digitN (byteN s i)=false) (hq:byteN s i=34) (hx:¬ (quoE s i=s.size∨named (s.extract (i+1) (quoE s i))=false)):∃ f',TkI s F (quoE s i+1) f' (l ++ [(3,s.extract (i+1) (quoE s i))]):=by
 have hf:=h.fu
 have hg:i+1≤quoE s i:=runE_ge
 have hle:quoE s i≤s.size:=runE_le hi
 cases f with
 | zero=>omega
 | succ f=>
  refine ⟨f,?_,by omega,by omega,by have:=h.ln;rw [List.length_append];simp;omega⟩
  rw [h.e]
  simp only [tokN]
  rw [if_neg z0c,if_neg z0y,if_neg z0n1,if_neg (by rw [hc];exact Bool.false_ne_true),if_neg (by rw [hd];exact Bool.false_ne_true),if_pos hq,if_neg hx,map_cons]
theorem TkI.sign (h:TkI s F i f l) (hi:i < s.size) (hb:blankN (byteN s i)=false) (hr:remN s i=false) (hc:letterN (byteN s i)=false) (hd:digitN (byteN s i)=false) (hq:¬ byteN s i=34) (hs:signN (byteN s i)=true):∃ f',TkI s F (i+1) f' (l ++ [(4,s.extract i (i+1))]):=by
 have hf:=h.fu
 cases f with
 | zero=>omega
 | succ f=>
  refine ⟨f,?_,by omega,by omega,by have:=h.ln;rw [List.length_append];simp;omega⟩
  rw [h.e]
  simp only [tokN]
  rw [if_neg z0c,if_neg z0y,if_neg z0n1,if_neg (by rw [hc];exact Bool.false_ne_true),if_neg (by rw [hd];exact Bool.false_ne_true),if_neg hq,if_pos hs,map_cons]
theorem TkI.none (h:TkI s F i f l) (hi:i < s.size) (hb:blankN (byteN s i)=false) (hr:remN s i=false) (hc:letterN (byteN s i)=false) (hd:digitN (byteN s i)=false) (hq:¬ byteN s i=34) (hs:signN (byteN s i)=false):tokN s F 0=.none:=by
 have hf:=h.fu
 cases f with
 | zero=>omega
 | succ f=>
  rw [h.e]
  simp only [tokN]
  rw [if_neg z0c,if_neg z0y,if_neg z0n1,if_neg (by rw [hc];exact Bool.false_ne_true),if_neg (by rw [hd];exact Bool.false_ne_true),if_neg hq,if_neg (by rw [hs];exact Bool.false_ne_true)]
  rfl
end
def rowTk (l:List Tok):List Value:=l.flatMap fun t=>[.int .i64 t.1,.string t.2]
theorem rowTk_snoc (l:List Tok) (a:Tok):rowTk (l ++ [a])=rowTk l ++ [.int .i64 a.1,.string a.2]:=by
 unfold rowTk
 rw [List.flatMap_append]
 rfl
theorem infoTok:(Tryz.prog.info? 66).map (fun i=>(i.zero,i.size,i.bytes))=some (some (.agg #[.int .i64 0,.string ⟨#[]⟩]),2,24):=by kernel_rfl
theorem rem_gt {s:ByteArray} {i:Nat} (hi:i < s.size) (hr:remN s i=true):i+1≤remE s i:=by
 unfold remN at hr
 rw [Bool.and_eq_true] at hr
 unfold remE
 rw [runE_step hi (by rw [of_decide_eq_true hr.1];rfl)]
 exact runE_ge
theorem ext_size {s:ByteArray} {i j:Nat} (hj:j≤s.size):(s.extract i j).size=j - i:=by
 rw [ByteArray.size_extract]
 omega
theorem ext_max {s:ByteArray} {i j:Nat} (hs:s.size≤8192) (hj:j≤s.size):(s.extract i j).size≤maxLen:=by
 rw [ext_size hj]
 exact Nat.le_trans (show j - i≤8192 by omega) z0e
theorem cat_max {s:ByteArray} {i j:Nat} (hs:s.size≤8192) (hj:j≤s.size):((⟨#[97]⟩:ByteArray) ++ s.extract i j).size≤maxLen:=by
 rw [ByteArray.size_append,ext_size hj]
 exact Nat.le_trans (show 1+(j - i)≤8193 by omega) z0e
theorem len_max {n m:Nat} (h:n≤8192) (hm:m=1):n+m≤maxLen:=Nat.le_trans (show n+m≤8193 by omega) z0e
theorem ext_at {s:ByteArray} {i j k:Nat} (hj:j≤s.size) (hk:i+k < j):byteN (s.extract i j) k=byteN s (i+k):=by
 rw [byteN_at _ k (by rw [ext_size hj];omega),byteN_at s (i+k) z0c]
 congr 1
 exact ByteArray.getElem_extract _
theorem named_one {s:ByteArray} {i:Nat} (hi:i < s.size):named (s.extract i (i+1))=letterN (byteN s i):=by
 have hz:(s.extract i (i+1)).size=1:=by rw [ext_size z0c];omega
 have h0:byteN (s.extract i (i+1)) 0=byteN s i:=ext_at z0c z0c
 unfold named
 rw [hz]
 show (!(false || badN (s.extract i (i+1)) 0) && decide (1≠0))=_
 unfold badN
 rw [h0]
 cases letterN (byteN s i) <;> simp
theorem named_a {s:ByteArray} {i:Nat} (hi:i < s.size):named ((⟨#[97]⟩:ByteArray) ++ s.extract i (i+1))=wordN (byteN s i):=by
 have hz:(s.extract i (i+1)).size=1:=by rw [ext_size z0c];omega
 have hz2:((⟨#[97]⟩:ByteArray) ++ s.extract i (i+1)).size=2:=by rw [ByteArray.size_append,hz];rfl
 have h0:byteN ((⟨#[97]⟩:ByteArray) ++ s.extract i (i+1)) 0=97:=by
  rw [byteN_at _ 0 z0c,ByteArray.getElem_append_left z0e]
  rfl
 have h1:byteN ((⟨#[97]⟩:ByteArray) ++ s.extract i (i+1)) 1=byteN s i:=by
  have h2:byteN (s.extract i (i+1)) 0=byteN s i:=ext_at z0c z0c
  rw [← h2,byteN_at _ 1 z0c,byteN_at _ 0 z0c,ByteArray.getElem_append_right z0e]
  rfl
 unfold named
 rw [hz2]
 show (!((false || badN _ 0) || badN _ 1) && decide (2≠0))=_
 unfold badN wordN
 rw [h0,h1]
 have hl:letterN 97=true:=by decide
 rw [hl]
 by_cases c:byteN s i=95
 ·rw [c];decide
 ·rw [decide_eq_false c]
  cases letterN (byteN s i) <;> cases digitN (byteN s i) <;> simp
theorem news_two {W:World} {a b:Value} {t:TypeId}:∀ j u,[a,b][j]? = some u→(W.alloc (.cells #[a,b] t)).cell? ((⟨W.heap.size,0,none⟩:Addr).add j)=some u:=by
 intro j u hu
 rw [addr_at,Nat.zero_add]
 rcases j with _|_|j
 ·injection hu with hu
  subst hu
  simp [go_sem]
 ·injection hu with hu
  subst hu
  simp [go_sem]
 ·simp at hu
theorem one_tok {k:Int} {s:ByteArray}:∀ u ∈ [Value.int .i64 k,Value.string s],u.oneCell'=true:=by
 intro u hu
 simp only [List.mem_cons,List.not_mem_nil,or_false] at hu
 rcases hu with rfl|rfl <;> rfl
end Go.Proofs.YtfondldmmcmloaaGreatDoor
