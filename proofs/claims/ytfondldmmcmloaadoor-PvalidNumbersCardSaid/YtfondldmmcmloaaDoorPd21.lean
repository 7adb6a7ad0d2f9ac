/- NrP, Tail, NrD, NrF, Tk1. -/
import Derived.Laws.IdiomCopy
import Derived.Test.YtfondldmmcmloaaDoorPd20
set_option maxRecDepth 1000000
set_option maxHeartbeats 8000000
namespace Go.Proofs.YtfondldmmcmloaaDoor
open Go.RowKit
def PNrm (M:Nat→PM) (a:Option Addr) (n c:Nat) (T:VT):Prop:=∀ (k:Nat) (w:World),k < n→PL w a n c M→T.In w→T.right=true→T.long=false→(okT M n T).msg (M k)=true →
  Calls Tryd.prog 22 #[.slice a n c,(M k).agg,T.agg] w fun e w'=>∃ t:VT,e=.returned t.agg∧NrT w w' T ((nrm2 M n T).msg (M k)) t∧Below w.heap.size w w'
structure NrS (w:World) (Bx Bo:Nat) (kind:Int) (neg:Bool) (V bits:Nat) (text:ByteArray) (aL:Option Addr) (nL cL:Nat) (aK:Option Addr) (nK cK:Nat) (lv kv:Value):Prop where
 x:VBx w Bx kind neg V bits text aL nL cL aK nK cK
 o8:w.cell? ⟨Bo,8,none⟩=some lv
 o9:w.cell? ⟨Bo,9,none⟩=some kv
theorem NrS.all {w:World} {Bx Bo:Nat} {kind:Int} {neg:Bool} {V bits:Nat} {text:ByteArray} {aL:Option Addr} {nL cL:Nat} {aK:Option Addr} {nK cK:Nat} {lv kv:Value} (h:NrS w Bx Bo kind neg V bits text aL nL cL aK nK cK lv kv) :
  w.cell? ⟨Bx,0,none⟩=some (.int .i64 kind)∧w.cell? ⟨Bx,1,none⟩=some (.bool neg)∧w.cell? ⟨Bx,2,none⟩=some (.int .u64 (lm V 0:Nat))∧w.cell? ⟨Bx,3,none⟩=some (.int .u64 (lm V 1:Nat))∧w.cell? ⟨Bx,4,none⟩=some (.int .u64 (lm V 2:Nat)) ∧
  w.cell? ⟨Bx,5,none⟩=some (.int .u64 (lm V 3:Nat))∧w.cell? ⟨Bx,6,none⟩=some (.int .u64 (bits:Nat))∧w.cell? ⟨Bx,7,none⟩=some (.string text)∧w.cell? ⟨Bx,8,none⟩=some (.slice aL nL cL)∧w.cell? ⟨Bx,9,none⟩=some (.slice aK nK cK)∧w.cell? ⟨Bo,8,none⟩=some lv∧w.cell? ⟨Bo,9,none⟩=some kv:=by
 obtain ⟨h0,h1,h2,h3,h4,h5,h6,h7,h8,h9⟩:=h.x.c
 exact ⟨h0,h1,h2,h3,h4,h5,h6,h7,h8,h9,h.o8,h.o9⟩
theorem NrS.below {w w':World} {Bx Bo:Nat} {kind:Int} {neg:Bool} {V bits:Nat} {text:ByteArray} {aL:Option Addr} {nL cL:Nat} {aK:Option Addr} {nK cK:Nat} {lv kv:Value} (h:NrS w Bx Bo kind neg V bits text aL nL cL aK nK cK lv kv) (hb:Below w.heap.size w w'):NrS w' Bx Bo kind neg V bits text aL nL cL aK nK cK lv kv:=
 ⟨h.x.below hb,keep_cell hb h.o8,keep_cell hb h.o9⟩
theorem NrS.grown {w w':World} {r:Option Nat} {Bx Bo:Nat} {kind:Int} {neg:Bool} {V bits:Nat} {text:ByteArray} {aL:Option Addr} {nL cL:Nat} {aK:Option Addr} {nK cK:Nat} {lv kv:Value} (h:NrS w Bx Bo kind neg V bits text aL nL cL aK nK cK lv kv) (hg:w.grownBy w' r) (h1:some Bx≠r) (h2:some Bo≠r):NrS w' Bx Bo kind neg V bits text aL nL cL aK nK cK lv kv:=
 ⟨h.x.same (hg.block Bx (World.block_lt_of_cell? w ⟨Bx,0,none⟩ h.x.c.1) h1),hg.cell h.o8 h2,hg.cell h.o9 h2⟩
theorem news_one {w:World} {B:Nat} {s:Value} (h:w.cell? ⟨B,0,none⟩=some s):∀ j u,[s][j]? = some u→w.cell? ((⟨B,0,none⟩:Addr).add j)=some u:=by
 intro j u hu
 cases j with
 | zero=>
  injection hu with hu
  subst hu
  rw [addr_at]
  exact h
 | succ j=>simp at hu
theorem oneC_str {s:ByteArray}:∀ u ∈ [Value.string s],u.oneCell'=true:=by
 intro u hu
 rcases List.mem_singleton.1 hu with rfl
 rfl
theorem news_ten {w:World} {B:Nat} {kind:Int} {neg:Bool} {V bits:Nat} {text:ByteArray} {aL:Option Addr} {nL cL:Nat} {kids:Nat→VT} {aK:Option Addr} {nK cK:Nat} {keys:Nat→ByteArray} (h:VBx w B kind neg V bits text aL nL cL aK nK cK) :
  ∀ j u,(VT.mk kind neg V bits text aL nL cL kids aK nK cK keys).cells[j]? = some u→w.cell? ((⟨B,0,none⟩:Addr).add j)=some u:=by
 obtain ⟨h0,h1,h2,h3,h4,h5,h6,h7,h8,h9⟩:=h.c
 intro j u hu
 rw [addr_at,Nat.zero_add]
 have hj:j < 10:=(List.getElem?_eq_some_iff.1 hu).1
 rcases (show j=0∨j=1∨j=2∨j=3∨j=4∨j=5∨j=6∨j=7∨j=8∨j=9 by omega) with rfl|rfl|rfl|rfl|rfl|rfl|rfl|rfl|rfl|rfl <;> (injection hu with hu;subst hu;assumption)
theorem sel_far {p:Nat→Bool} {j n i:Nat} (hj:j≤n) (h:i < cntN p j):i < cntN p n∧selI p n i=selI p j i:=by
 induction n with
 | zero=>
  obtain rfl:j=0:=by omega
  exact ⟨h,rfl⟩
 | succ n ih=>
  by_cases c:j=n+1
  ·subst c
   exact ⟨h,rfl⟩
  ·obtain ⟨h1,h2⟩:=ih z0b
   refine ⟨?_,(sel_old h1).trans h2⟩
   simp only [cntN]
   omega
theorem sel_here {p:Nat→Bool} {j n:Nat} (hj:j < n) (h:p j=true):selI p n (cntN p j)=j:=by
 have h1:cntN p j < cntN p (j+1):=by rw [cnt_yes h];omega
 rw [(sel_far (show j+1≤n by omega) h1).2]
 exact sel_new h
theorem MBx.same {w w':World} {B:Nat} {m:PM} (h:MBx w B m) (hk:w'.heap[B]? = w.heap[B]?):MBx w' B m:=by
 have e:∀ j,w'.cell? ⟨B,j,none⟩=w.cell? ⟨B,j,none⟩:=fun j=>World.cell?_of_block (a:=⟨B,j,none⟩) hk
 obtain ⟨h0,h1,h2,h3⟩:=h.all
 exact ⟨by rw [e];exact h0,by rw [e];exact h1,by rw [e];exact h2,by rw [e];exact h3⟩
theorem But.old {b:Nat} {w W w1:World} (h:Below w.heap.size w W) (k:But b b W w1) (hb:w.heap.size≤b):Below w.heap.size w w1:=by
 have hs:=h.size
 have he:∀ i,i < w.heap.size→w1.heap[i]? = w.heap[i]? := fun i hi=>(k.block i z0b z0b z0b).trans (h.block i hi)
 exact ⟨k.os.trans h.os,k.tape.trans h.tape,k.output.trans h.output,Nat.le_trans hs k.size,he⟩
structure NrW (w W:World) (m:PM) (Bm Bv Br Bo:Nat) (kind:Int) (neg:Bool) (V bits:Nat) (text:ByteArray) (aL:Option Addr) (nL cL:Nat) (aK:Option Addr) (nK cK:Nat):Prop where
 m:MBx W Bm m
 v:VBx W Bv kind neg V bits text aL nL cL aK nK cK
 r:WBx W Br (.int .i64 0) (.bool false) (.int .u64 0) (.int .u64 0) (.int .u64 0) (.int .u64 0) (.int .u64 0) (.string ⟨#[]⟩) (.slice none 0 0) (.slice none 0 0)
 o:WBx W Bo (.int .i64 8) (.bool false) (.int .u64 0) (.int .u64 0) (.int .u64 0) (.int .u64 0) (.int .u64 0) (.string ⟨#[]⟩) (.slice none 0 0) (.slice none 0 0)
 b:Below w.heap.size w W
 l:w.heap.size≤Bm∧Bm < W.heap.size∧Bv < W.heap.size∧Br < W.heap.size∧Bo < W.heap.size∧w.heap.size≤Bo∧w.heap.size≤Br
 n:Bm≠Bo∧Bv≠Bo∧Br≠Bo
theorem nr_start (w:World) (m:PM) (t1 t2:TypeId) (kind:Int) (neg:Bool) (V bits:Nat) (text:ByteArray) (aL:Option Addr) (nL cL:Nat) (aK:Option Addr) (nK cK:Nat) :
  NrW w ((((w.alloc (.cells #[.string m.name,.slice m.aF m.nF m.cF,.slice m.aN m.nN m.cN,.slice m.aS m.nS m.cS] t1)).alloc (.cells #[.int .i64 kind,.bool neg,.int .u64 (lm V 0:Nat),.int .u64 (lm V 1:Nat),.int .u64 (lm V 2:Nat),.int .u64 (lm V 3:Nat),.int .u64 (bits:Nat),.string text,.slice aL nL cL,.slice aK nK cK] t2)).alloc (.cells #[.int .i64 0,.bool false,.int .u64 0,.int .u64 0,.int .u64 0,.int .u64 0,.int .u64 0,.string ⟨#[]⟩,.slice none 0 0,.slice none 0 0] t2)).alloc (.cells #[.int .i64 8,.bool false,.int .u64 0,.int .u64 0,.int .u64 0,.int .u64 0,.int .u64 0,.string ⟨#[]⟩,.slice none 0 0,.slice none 0 0] t2)) m w.heap.size (w.heap.size+1) (w.heap.size+1+1) (w.heap.size+1+1+1) kind neg V bits text aL nL cL aK nK cK:=by
 refine ⟨⟨by simp [go_sem]⟩,⟨by simp [go_sem]⟩,⟨⟨by simp [go_sem]⟩,fun j=>by simp [go_sem]⟩,⟨⟨by simp [go_sem]⟩,fun j=>by simp [go_sem]⟩,zb2,?_,by omega⟩
 simp
 omega
theorem set10_block {w:World} {B b:Nat} {v0 v1 v2 v3 v4 v5 v6 v7 v8 v9:Value} (hb:b≠B):((((((((((w.setCell ⟨B,0,none⟩ v0).setCell ⟨B,1,none⟩ v1).setCell ⟨B,2,none⟩ v2).setCell ⟨B,3,none⟩ v3).setCell ⟨B,4,none⟩ v4).setCell ⟨B,5,none⟩ v5).setCell ⟨B,6,none⟩ v6).setCell ⟨B,7,none⟩ v7).setCell ⟨B,8,none⟩ v8).setCell ⟨B,9,none⟩ v9).heap[b]? = w.heap[b]? := by
 rw [block_setCell hb,block_setCell hb,block_setCell hb,block_setCell hb,block_setCell hb,block_setCell hb,block_setCell hb,block_setCell hb,block_setCell hb,block_setCell hb]
theorem VT.In.lit {w:World} {T:VT} (h:T.In w):∃ (kind:Int) (neg:Bool) (V bits:Nat) (text:ByteArray) (aL:Option Addr) (nL cL:Nat) (kids:Nat→VT) (aK:Option Addr) (nK cK:Nat) (keys:Nat→ByteArray),T=.mk kind neg V bits text aL nL cL kids aK nK cK keys:=by
 cases T with
 | nil=>exact h.elim
 | mk kind neg V bits text aL nL cL kids aK nK cK keys=>exact ⟨kind,neg,V,bits,text,aL,nL,cL,kids,aK,nK,cK,keys,rfl⟩
theorem RowX.same {w w':World} {g n:Nat} {T:Nat→VT} (h:RowX w g n T) (hk:w'.heap[g]? = w.heap[g]?):RowX w' g n T:=
 ⟨fun i hi j hj=>by rw [World.cell?_of_block (a:=⟨g,i * 10+j,none⟩) hk];exact h.c i hi j hj,fun j=>(World.frozen?_of_block (a:=⟨g,j,none⟩) hk).trans (h.f j),by
  have:=h.l
  rcases Nat.lt_or_ge g w'.heap.size with c|c
  ·exact c
  ·rw [Array.getElem?_eq_none c,Array.getElem?_eq_getElem this] at hk
   cases hk⟩
structure NrQ (wr w7 wq:World) (g nL q:Nat) (kids F tq:Nat→VT):Prop where
 r:RowX wq g nL (fun i=>if i < q then tq i else kids i)
 t:∀ i,i < q→NrT wr wq (kids i) (F i) (tq i)∧(tq i).Blk (fun b=>b≠g)
 b:But g g w7 wq
theorem NrQ.start {wr w7:World} {g nL:Nat} {kids F tq:Nat→VT} (h:RowX w7 g nL kids):NrQ wr w7 w7 g nL 0 kids F tq:=
 ⟨⟨fun i hi j hj=>by simp only [Nat.not_lt_zero,if_false];exact h.c i hi j hj,h.f,h.l⟩,fun i hi=>absurd hi (Nat.not_lt_zero _),But.of (Below.refl _ _)⟩
structure NrY (w:World) (Bx By b o:Nat) (aX:Option Addr) (nX cX:Nat) (m:PM) (kind:Int) (neg:Bool) (V bits:Nat) (text:ByteArray) (aL:Option Addr) (nL cL:Nat) (aK:Option Addr) (nK cK:Nat):Prop where
 x:w.cell? ⟨Bx,8,none⟩=some (.slice aX nX cX)
 m:M4 w b o m
 y:VBx w By kind neg V bits text aL nL cL aK nK cK
theorem NrY.all {w:World} {Bx By b o:Nat} {aX:Option Addr} {nX cX:Nat} {m:PM} {kind:Int} {neg:Bool} {V bits:Nat} {text:ByteArray} {aL:Option Addr} {nL cL:Nat} {aK:Option Addr} {nK cK:Nat} (h:NrY w Bx By b o aX nX cX m kind neg V bits text aL nL cL aK nK cK) :
  w.cell? ⟨Bx,8,none⟩=some (.slice aX nX cX)∧w.cell? ⟨b,o,none⟩=some (.string m.name)∧w.cell? ⟨b,o+1,none⟩=some (.slice m.aF m.nF m.cF)∧w.cell? ⟨b,o+2,none⟩=some (.slice m.aN m.nN m.cN)∧w.cell? ⟨b,o+3,none⟩=some (.slice m.aS m.nS m.cS) ∧
  w.cell? ⟨By,0,none⟩=some (.int .i64 kind)∧w.cell? ⟨By,1,none⟩=some (.bool neg)∧w.cell? ⟨By,2,none⟩=some (.int .u64 (lm V 0:Nat))∧w.cell? ⟨By,3,none⟩=some (.int .u64 (lm V 1:Nat))∧w.cell? ⟨By,4,none⟩=some (.int .u64 (lm V 2:Nat)) ∧
  w.cell? ⟨By,5,none⟩=some (.int .u64 (lm V 3:Nat))∧w.cell? ⟨By,6,none⟩=some (.int .u64 (bits:Nat))∧w.cell? ⟨By,7,none⟩=some (.string text)∧w.cell? ⟨By,8,none⟩=some (.slice aL nL cL)∧w.cell? ⟨By,9,none⟩=some (.slice aK nK cK):=by
 obtain ⟨m0,m1,m2,m3⟩:=h.m.all
 obtain ⟨h0,h1,h2,h3,h4,h5,h6,h7,h8,h9⟩:=h.y.c
 exact ⟨h.x,m0,m1,m2,m3,h0,h1,h2,h3,h4,h5,h6,h7,h8,h9⟩
theorem NrY.below {w w':World} {Bx By b o:Nat} {aX:Option Addr} {nX cX:Nat} {m:PM} {kind:Int} {neg:Bool} {V bits:Nat} {text:ByteArray} {aL:Option Addr} {nL cL:Nat} {aK:Option Addr} {nK cK:Nat} (h:NrY w Bx By b o aX nX cX m kind neg V bits text aL nL cL aK nK cK) (hb:Below w.heap.size w w'):NrY w' Bx By b o aX nX cX m kind neg V bits text aL nL cL aK nK cK:=
 ⟨keep_cell hb h.x,h.m.below hb,h.y.below hb⟩
theorem setCell_os (w:World) (a:Addr) (v:Value):(w.setCell a v).os=w.os:=rfl
theorem setCell_tape (w:World) (a:Addr) (v:Value):(w.setCell a v).tape=w.tape:=rfl
theorem setCell_out (w:World) (a:Addr) (v:Value):(w.setCell a v).output=w.output:=rfl
theorem set10_at {w:World} {g o:Nat} {v0 v1 v2 v3 v4 v5 v6 v7 v8 v9:Value} (hf:∀ j,w.frozen? ⟨g,j,none⟩=false) (hc:∀ j,j < 10→(w.cell? ⟨g,o+j,none⟩).isSome=true) (w':World) (hw:w'=((((((((((w.setCell ⟨g,o,none⟩ v0).setCell ⟨g,o+1,none⟩ v1).setCell ⟨g,o+2,none⟩ v2).setCell ⟨g,o+3,none⟩ v3).setCell ⟨g,o+4,none⟩ v4).setCell ⟨g,o+5,none⟩ v5).setCell ⟨g,o+6,none⟩ v6).setCell ⟨g,o+7,none⟩ v7).setCell ⟨g,o+8,none⟩ v8).setCell ⟨g,o+9,none⟩ v9)) :
  (∀ j,w'.frozen? ⟨g,j,none⟩=false)∧(∀ k,k < o∨o+10≤k→w'.cell? ⟨g,k,none⟩=w.cell? ⟨g,k,none⟩)∧(∀ j,j < 10→w'.cell? ⟨g,o+j,none⟩=[v0,v1,v2,v3,v4,v5,v6,v7,v8,v9][j]?)∧(∀ b,b≠g→w'.heap[b]? = w.heap[b]?)∧w'.heap.size=w.heap.size∧w'.os=w.os∧w'.tape=w.tape∧w'.output=w.output:=by
 have e:w'=w.setCells g o [v0,v1,v2,v3,v4,v5,v6,v7,v8,v9]:=by rw [hw];simp only [World.setCells,Nat.add_assoc,Nat.reduceAdd]
 have hb:∀ b,b≠g→w'.heap[b]? = w.heap[b]? := fun b hb=>by
  rw [hw,block_setCell hb,block_setCell hb,block_setCell hb,block_setCell hb,block_setCell hb,block_setCell hb,block_setCell hb,block_setCell hb,block_setCell hb,block_setCell hb]
 refine ⟨fun j=>?_,fun k hk=>?_,fun j hj=>?_,hb,?_,by subst hw;simp only [setCell_os],by subst hw;simp only [setCell_tape],by subst hw;simp only [setCell_out]⟩
 ·rw [e]
  exact (World.frozen?_setCells g _ o w ⟨g,j,none⟩).trans (hf j)
 ·rw [e]
  exact World.cell?_setCells_out g _ o w ⟨g,k,none⟩ (fun _ _=>hk)
 ·rw [e]
  have:=World.cell?_setCells_in g [v0,v1,v2,v3,v4,v5,v6,v7,v8,v9] o w (fun j hj=>hc j hj) j hj
  rw [this,List.getElem?_eq_getElem]
 ·rw [hw]
  simp only [World.size_setCell]
theorem NrQ.push {wr w7 wq w9:World} {g nL q:Nat} {kids F tq:Nat→VT} {kind:Int} {neg:Bool} {V bits:Nat} {text:ByteArray} {aL:Option Addr} {nL' cL:Nat} {kids':Nat→VT} {aK:Option Addr} {nK cK:Nat} {keys:Nat→ByteArray}
  (h:NrQ wr w7 wq g nL q kids F tq) (hq:q < nL) (h10:(kids q).cells.length=10) (hb:Below wq.heap.size wq w9) (ht:NrT wr w9 (kids q) (F q) (.mk kind neg V bits text aL nL' cL kids' aK nK cK keys)) (hg:VT.Blk (fun b=>b≠g) (.mk kind neg V bits text aL nL' cL kids' aK nK cK keys)) :
  ∃ tq':Nat→VT,NrQ wr w7 ((((((((((w9.setCell ⟨g,q * 10,none⟩ (.int .i64 kind)).setCell ⟨g,q * 10+1,none⟩ (.bool neg)).setCell ⟨g,q * 10+2,none⟩ (.int .u64 (lm V 0:Nat))).setCell ⟨g,q * 10+3,none⟩ (.int .u64 (lm V 1:Nat))).setCell ⟨g,q * 10+4,none⟩ (.int .u64 (lm V 2:Nat))).setCell ⟨g,q * 10+5,none⟩ (.int .u64 (lm V 3:Nat))).setCell ⟨g,q * 10+6,none⟩ (.int .u64 (bits:Nat))).setCell ⟨g,q * 10+7,none⟩ (.string text)).setCell ⟨g,q * 10+8,none⟩ (.slice aL nL' cL)).setCell ⟨g,q * 10+9,none⟩ (.slice aK nK cK)) g nL (q+1) kids F tq':=by
 have R9:=h.r.below hb
 have hce:∀ j,j < 10→(w9.cell? ⟨g,q * 10+j,none⟩).isSome=true:=fun j hj=>by
  rw [R9.c q hq j hj]
  simp only [Nat.lt_irrefl,if_false]
  rw [List.getElem?_eq_getElem z0b]
  rfl
 obtain ⟨w',hw⟩:∃ w',w'=((((((((((w9.setCell ⟨g,q * 10,none⟩ (.int .i64 kind)).setCell ⟨g,q * 10+1,none⟩ (.bool neg)).setCell ⟨g,q * 10+2,none⟩ (.int .u64 (lm V 0:Nat))).setCell ⟨g,q * 10+3,none⟩ (.int .u64 (lm V 1:Nat))).setCell ⟨g,q * 10+4,none⟩ (.int .u64 (lm V 2:Nat))).setCell ⟨g,q * 10+5,none⟩ (.int .u64 (lm V 3:Nat))).setCell ⟨g,q * 10+6,none⟩ (.int .u64 (bits:Nat))).setCell ⟨g,q * 10+7,none⟩ (.string text)).setCell ⟨g,q * 10+8,none⟩ (.slice aL nL' cL)).setCell ⟨g,q * 10+9,none⟩ (.slice aK nK cK)):=⟨_,rfl⟩
 obtain ⟨f1,f2,f3,f4,f5,f6,f7,f8⟩:=set10_at (o:=q * 10) R9.f hce w' hw
 rw [← hw]
 clear hw
 obtain ⟨T,hT⟩:∃ T,T=VT.mk kind neg V bits text aL nL' cL kids' aK nK cK keys:=⟨_,rfl⟩
 rw [← hT] at ht hg
 obtain ⟨tq',ht'⟩:∃ t':Nat→VT,t'=fun i=>if i < q then tq i else T:=⟨_,rfl⟩
 have e1:∀ i,i < q→tq' i=tq i:=fun i hi=>by rw [ht'];exact if_pos hi
 have e2:tq' q=T:=by rw [ht'];exact if_neg (Nat.lt_irrefl _)
 have hs:w9.heap.size≤w'.heap.size:=by rw [f5];exact Nat.le_refl _
 refine ⟨tq',⟨fun i hi j hj=>?_,f1,by rw [f5];exact R9.l⟩,fun i hi=>?_,(h.b.trans2 (But.of hb)).trans2 ⟨f6,f7,f8,hs,fun k _ hk _=>f4 k hk⟩⟩
 ·by_cases c:i=q
  ·subst c
   rw [if_pos (Nat.lt_succ_self _),e2,hT]
   exact f3 j hj
  ·rw [f2 _ z0b,R9.c i hi j hj]
   by_cases c2:i < q
   ·rw [if_pos c2,if_pos z0b,e1 i c2]
   ·rw [if_neg c2,if_neg z0b]
 ·by_cases c:i < q
  ·rw [e1 i c]
   obtain ⟨h1,h2⟩:=h.t i c
   have h3:=h1.below hb
   exact ⟨⟨h3.i.kept hs (fun b _ hn=>f4 b hn) h2,h3.q,h3.s⟩,h2⟩
  ·obtain rfl:i=q:=by omega
   rw [e2]
   exact ⟨⟨ht.i.kept hs (fun b _ hn=>f4 b hn) hg,ht.q,ht.s⟩,hg⟩
theorem own_lit {w:World} {b:Nat} {e:TypeId} {s n:Nat} {v:Value} {xs:List Value} (h:w.ownsRow b e s v n xs) (hn:0 < n):∃ g c,v=.slice (some ⟨g,0,none⟩) n c:=by
 rcases h.2 with ⟨-,h0⟩|⟨g,c,cur,e,-⟩
 ·omega
 ·exact ⟨g,c,e⟩
theorem NrT.off {w W wr w5:World} {x F tn:VT} {Bo:Nat} {T0:VT} {fK:Nat→ByteArray} {fT:Nat→VT} {cn:Nat} {lv kv:Value} {t:Nat→VT} (h:NrT wr w5 x F tn) (hx:x.In w) (hI:NrI w W wr Bo T0 fK fT cn lv kv t) (h1:w.heap.size≤Bo) (h2:Bo < W.heap.size) (_h3:w.heap.size≤W.heap.size):tn.Blk (OffB w.heap.size W.heap.size lv kv):=by
 have hs:=hI.b.size
 exact h.q _ (hx.blk.mono fun b (hb:b < w.heap.size)=>⟨by omega,fun e=>(by have:=(hI.l.lt b e.symm).1;omega),fun e=>(by have:=(hI.k.lt b e.symm).1;omega)⟩)
  (fun b (hb:wr.heap.size≤b)=>⟨by omega,fun e=>(by have:=(hI.l.lt b e.symm).2;omega),fun e=>(by have:=(hI.k.lt b e.symm).2;omega)⟩)
structure NdW (w W:World) (Bv Br:Nat) (kind:Int) (neg:Bool) (V bits:Nat) (text:ByteArray) (aL:Option Addr) (nL cL:Nat) (aK:Option Addr) (nK cK:Nat):Prop where
 v:VBx W Bv kind neg V bits text aL nL cL aK nK cK
 r:WBx W Br (.int .i64 0) (.bool false) (.int .u64 0) (.int .u64 0) (.int .u64 0) (.int .u64 0) (.int .u64 0) (.string ⟨#[]⟩) (.slice none 0 0) (.slice none 0 0)
 b:Below w.heap.size w W
 l:w.heap.size≤Br
theorem nd_start (w:World) (t2:TypeId) (kind:Int) (neg:Bool) (V bits:Nat) (text:ByteArray) (aL:Option Addr) (nL cL:Nat) (aK:Option Addr) (nK cK:Nat) :
  NdW w ((w.alloc (.cells #[.int .i64 kind,.bool neg,.int .u64 (lm V 0:Nat),.int .u64 (lm V 1:Nat),.int .u64 (lm V 2:Nat),.int .u64 (lm V 3:Nat),.int .u64 (bits:Nat),.string text,.slice aL nL cL,.slice aK nK cK] t2)).alloc (.cells #[.int .i64 0,.bool false,.int .u64 0,.int .u64 0,.int .u64 0,.int .u64 0,.int .u64 0,.string ⟨#[]⟩,.slice none 0 0,.slice none 0 0] t2)) w.heap.size (w.heap.size+1) kind neg V bits text aL nL cL aK nK cK:=
 ⟨⟨by simp [go_sem]⟩,⟨⟨by simp [go_sem]⟩,fun j=>by simp [go_sem]⟩,zb2,by omega⟩
structure NrS2 (w:World) (Bx Bo Bv kb kx:Nat) (kind:Int) (neg:Bool) (V bits:Nat) (text:ByteArray) (aL:Option Addr) (nL cL:Nat) (aK:Option Addr) (nK cK:Nat) (lv kv kk:Value) (s:ByteArray):Prop where
 y:NrS w Bx Bo kind neg V bits text aL nL cL aK nK cK lv kv
 v:w.cell? ⟨Bv,9,none⟩=some kk
 k:w.cell? ⟨kb,kx,none⟩=some (.string s)
theorem NrS2.all {w:World} {Bx Bo Bv kb kx:Nat} {kind:Int} {neg:Bool} {V bits:Nat} {text:ByteArray} {aL:Option Addr} {nL cL:Nat} {aK:Option Addr} {nK cK:Nat} {lv kv kk:Value} {s:ByteArray} (h:NrS2 w Bx Bo Bv kb kx kind neg V bits text aL nL cL aK nK cK lv kv kk s) :
  w.cell? ⟨Bv,9,none⟩=some kk∧w.cell? ⟨kb,kx,none⟩=some (.string s)∧w.cell? ⟨Bx,0,none⟩=some (.int .i64 kind)∧w.cell? ⟨Bx,1,none⟩=some (.bool neg)∧w.cell? ⟨Bx,2,none⟩=some (.int .u64 (lm V 0:Nat))∧w.cell? ⟨Bx,3,none⟩=some (.int .u64 (lm V 1:Nat))∧w.cell? ⟨Bx,4,none⟩=some (.int .u64 (lm V 2:Nat)) ∧
  w.cell? ⟨Bx,5,none⟩=some (.int .u64 (lm V 3:Nat))∧w.cell? ⟨Bx,6,none⟩=some (.int .u64 (bits:Nat))∧w.cell? ⟨Bx,7,none⟩=some (.string text)∧w.cell? ⟨Bx,8,none⟩=some (.slice aL nL cL)∧w.cell? ⟨Bx,9,none⟩=some (.slice aK nK cK)∧w.cell? ⟨Bo,8,none⟩=some lv∧w.cell? ⟨Bo,9,none⟩=some kv:=⟨h.v,h.k,h.y.all⟩
theorem NrS2.below {w w':World} {Bx Bo Bv kb kx:Nat} {kind:Int} {neg:Bool} {V bits:Nat} {text:ByteArray} {aL:Option Addr} {nL cL:Nat} {aK:Option Addr} {nK cK:Nat} {lv kv kk:Value} {s:ByteArray} (h:NrS2 w Bx Bo Bv kb kx kind neg V bits text aL nL cL aK nK cK lv kv kk s) (hb:Below w.heap.size w w'):NrS2 w' Bx Bo Bv kb kx kind neg V bits text aL nL cL aK nK cK lv kv kk s:=
 ⟨h.y.below hb,keep_cell hb h.v,keep_cell hb h.k⟩
theorem NrS2.grown {w w':World} {r:Option Nat} {Bx Bo Bv kb kx:Nat} {kind:Int} {neg:Bool} {V bits:Nat} {text:ByteArray} {aL:Option Addr} {nL cL:Nat} {aK:Option Addr} {nK cK:Nat} {lv kv kk:Value} {s:ByteArray} (h:NrS2 w Bx Bo Bv kb kx kind neg V bits text aL nL cL aK nK cK lv kv kk s) (hg:w.grownBy w' r) (h1:some Bx≠r) (h2:some Bo≠r) (h3:some Bv≠r) (h4:some kb≠r):NrS2 w' Bx Bo Bv kb kx kind neg V bits text aL nL cL aK nK cK lv kv kk s:=
 ⟨h.y.grown hg h1 h2,hg.cell h.v h3,hg.cell h.k h4⟩
structure NrJ (wr w7 wq:World) (By:Nat) (kind:Int) (aK:Option Addr) (nK cK:Nat) (q:Nat) (kids F tq:Nat→VT) (lv:Value):Prop where
 o:WBx wq By (.int .i64 kind) (.bool false) (.int .u64 0) (.int .u64 0) (.int .u64 0) (.int .u64 0) (.int .u64 0) (.string ⟨#[]⟩) lv (.slice aK nK cK)
 l:wq.ownsRow w7.heap.size 35 10 lv q (rowV tq q)
 t:∀ i,i < q→NrT wr wq (kids i) (F i) (tq i)∧(tq i).Blk (fun b=>(b < wr.heap.size∨w7.heap.size≤b)∧some b≠lv.ownBlock)
 b:But By By w7 wq
theorem blk_and {Q R:Nat→Prop}:∀ {x:VT},x.Blk Q→x.Blk R→x.Blk (fun b=>Q b∧R b):=by
 intro x
 induction x with
 | nil=>exact fun _ _=>trivial
 | mk kind neg V bits text aL nL cL kids aK nK cK keys ih=>
  rintro ⟨a1,a2,a3⟩ ⟨b1,b2,b3⟩
  refine ⟨?_,?_,fun i hi=>ih i (a3 i hi) (b3 i hi)⟩
  ·rcases a1 with a1|a1
   ·exact .inl a1
   ·rcases b1 with b1|b1
    ·exact .inl b1
    ·exact .inr fun ad e=>⟨a1 ad e,b1 ad e⟩
  ·rcases a2 with a2|a2
   ·exact .inl a2
   ·rcases b2 with b2|b2
    ·exact .inl b2
    ·exact .inr fun ad e=>⟨a2 ad e,b2 ad e⟩
theorem FBx.same {w w':World} {B:Nat} {nm ty:ByteArray} {nu:Int} {op re ma:Bool} (h:FBx w B nm ty nu op re ma) (hk:w'.heap[B]? = w.heap[B]?):FBx w' B nm ty nu op re ma:=by
 have e:∀ j,w'.cell? ⟨B,j,none⟩=w.cell? ⟨B,j,none⟩:=fun j=>World.cell?_of_block (a:=⟨B,j,none⟩) hk
 obtain ⟨h0,h1,h2,h3,h4,h5⟩:=h.all
 exact ⟨by rw [e];exact h0,by rw [e];exact h1,by rw [e];exact h2,by rw [e];exact h3,by rw [e];exact h4,by rw [e];exact h5⟩
theorem NrJ.start {wr w7:World} {By:Nat} {kind:Int} {aK:Option Addr} {nK cK:Nat} {kids F tq:Nat→VT} (o:WBx w7 By (.int .i64 kind) (.bool false) (.int .u64 0) (.int .u64 0) (.int .u64 0) (.int .u64 0) (.int .u64 0) (.string ⟨#[]⟩) (.slice none 0 0) (.slice aK nK cK)):NrJ wr w7 w7 By kind aK nK cK 0 kids F tq (.slice none 0 0):=
 ⟨o,World.ownsRow_nil _ _ _ _,fun _i hi=>absurd hi (Nat.not_lt_zero _),But.of (Below.refl _ _)⟩
theorem NrJ.push {wr w7 wq w9 w10:World} {By:Nat} {kind:Int} {aK:Option Addr} {nK cK q:Nat} {kids F tq:Nat→VT} {lv lv1:Value} {T:VT} (h:NrJ wr w7 wq By kind aK nK cK q kids F tq lv) (h0:wr.heap.size≤By) (h1:By < w7.heap.size) (hb:Below wq.heap.size wq w9) (hg:w9.grownBy w10 lv.ownBlock)
  (hn:lv1.ownBlock=lv.ownBlock∨lv1.ownBlock=some w9.heap.size) (ho:w10.ownsRow w7.heap.size 35 10 lv1 (q+1) (rowV tq q ++ T.cells)) (hT:NrT wr w9 (kids q) (F q) T) (hTb:T.Blk (fun b=>b < wr.heap.size∨wq.heap.size≤b)) :
  ∃ tq':Nat→VT,NrJ wr w7 (w10.setCell ⟨By,8,none⟩ lv1) By kind aK nK cK (q+1) kids F tq' lv1:=by
 obtain ⟨tq',ht'⟩:∃ t':Nat→VT,t'=fun i=>if i < q then tq i else T:=⟨_,rfl⟩
 have e1:∀ i,i < q→tq' i=tq i:=fun i hi=>by rw [ht'];exact if_pos hi
 have e2:tq' q=T:=by rw [ht'];exact if_neg (Nat.lt_irrefl _)
 have s0:=h.b.size
 have s1:=hb.size
 have s2:=hg.size
 have hlt:=h.l.lt
 have hBy:some By≠lv.ownBlock:=fun e=>by have:=(hlt By e.symm).1;omega
 have hO:WBx w10 By (.int .i64 kind) (.bool false) (.int .u64 0) (.int .u64 0) (.int .u64 0) (.int .u64 0) (.int .u64 0) (.string ⟨#[]⟩) lv (.slice aK nK cK):=(h.o.below hb).same (hg.block By (h.o.below hb).lt hBy)
 have hsz:w9.heap.size≤(w10.setCell ⟨By,8,none⟩ lv1).heap.size:=by simpa using s2
 have hk:∀ b,b < w9.heap.size→((b < wr.heap.size∨w7.heap.size≤b)∧some b≠lv.ownBlock)→(w10.setCell ⟨By,8,none⟩ lv1).heap[b]? = w9.heap[b]? := fun b hb2 hq=>by
  rw [block_setCell (by have:=hq.1;omega)]
  exact hg.block b hb2 hq.2
 have hT2:T.Blk (fun b=>(b < wr.heap.size∨w7.heap.size≤b)∧some b≠lv.ownBlock):=hTb.mono fun b hb2=>⟨by omega,fun e=>by have:=hlt b e.symm;omega⟩
 have hoff:∀ {x:VT},x.In w9→x.Blk (fun b=>(b < wr.heap.size∨w7.heap.size≤b)∧some b≠lv.ownBlock)→x.Blk (fun b=>(b < wr.heap.size∨w7.heap.size≤b)∧some b≠lv1.ownBlock):=by
  intro x hx hq
  refine (blk_and hx.blk hq).mono fun b ⟨q0,q1,q2⟩=>⟨q1,?_⟩
  rcases hn with e|e
  ·rw [e];exact q2
  ·rw [e];intro c;injection c with c;omega
 refine ⟨tq',?_,own_setCell ?_ h1,fun i hi=>?_,?_⟩
 ·obtain ⟨hc,hf⟩:=hO
  obtain ⟨_,_,_,_,_,_,_,_,_,_⟩:=hc.all
  exact ⟨⟨by simp [go_sem, *]⟩,fun j=>by simp [go_sem, *]⟩
 ·rw [show rowV tq' (q+1)=rowV tq q ++ T.cells from by
   show rowV tq' q ++ (tq' q).cells=_
   rw [rowV_same e1,e2]]
  exact ho
 ·by_cases c:i < q
  ·rw [e1 i c]
   obtain ⟨a1,a2⟩:=h.t i c
   have a3:=a1.below hb
   exact ⟨⟨a3.i.kept hsz hk a2,a3.q,a3.s⟩,hoff a3.i a2⟩
  ·obtain rfl:i=q:=by omega
   rw [e2]
   exact ⟨⟨hT.i.kept hsz hk hT2,hT.q,hT.s⟩,hoff hT.i hT2⟩
 ·refine ⟨hg.os.trans (hb.os.trans h.b.os),hg.tape.trans (hb.tape.trans h.b.tape),hg.output.trans (hb.output.trans h.b.output),Nat.le_trans s0 (Nat.le_trans s1 hsz),fun b hb2 hne _=>?_⟩
  rw [block_setCell hne,hg.block b z0b (fun e=>by have:=(hlt b e.symm).1;omega),hb.block b z0b]
  exact h.b.block b hb2 hne hne
structure NrZ (w:World) (Bx Bf By g o:Nat) (aX:Option Addr) (nX cX:Nat) (ty:ByteArray) (lv:Value) (kind:Int) (neg:Bool) (V bits:Nat) (text:ByteArray) (aL:Option Addr) (nL cL:Nat) (aK:Option Addr) (nK cK:Nat):Prop where
 x:w.cell? ⟨Bx,8,none⟩=some (.slice aX nX cX)
 f:w.cell? ⟨Bf,1,none⟩=some (.string ty)
 y:w.cell? ⟨By,8,none⟩=some lv
 k:KBx w g o kind neg V bits text aL nL cL aK nK cK
theorem NrZ.all {w:World} {Bx Bf By g o:Nat} {aX:Option Addr} {nX cX:Nat} {ty:ByteArray} {lv:Value} {kind:Int} {neg:Bool} {V bits:Nat} {text:ByteArray} {aL:Option Addr} {nL cL:Nat} {aK:Option Addr} {nK cK:Nat} (h:NrZ w Bx Bf By g o aX nX cX ty lv kind neg V bits text aL nL cL aK nK cK) :
  w.cell? ⟨Bx,8,none⟩=some (.slice aX nX cX)∧w.cell? ⟨Bf,1,none⟩=some (.string ty)∧w.cell? ⟨By,8,none⟩=some lv∧w.cell? ⟨g,o,none⟩=some (.int .i64 kind)∧w.cell? ⟨g,o+1,none⟩=some (.bool neg)∧w.cell? ⟨g,o+2,none⟩=some (.int .u64 (lm V 0:Nat))∧w.cell? ⟨g,o+3,none⟩=some (.int .u64 (lm V 1:Nat))∧w.cell? ⟨g,o+4,none⟩=some (.int .u64 (lm V 2:Nat)) ∧
  w.cell? ⟨g,o+5,none⟩=some (.int .u64 (lm V 3:Nat))∧w.cell? ⟨g,o+6,none⟩=some (.int .u64 (bits:Nat))∧w.cell? ⟨g,o+7,none⟩=some (.string text)∧w.cell? ⟨g,o+8,none⟩=some (.slice aL nL cL)∧w.cell? ⟨g,o+9,none⟩=some (.slice aK nK cK):=by
 obtain ⟨h0,h1,h2,h3,h4,h5,h6,h7,h8,h9⟩:=h.k.all
 exact ⟨h.x,h.f,h.y,h0,h1,h2,h3,h4,h5,h6,h7,h8,h9⟩
theorem NrZ.below {w w':World} {Bx Bf By g o:Nat} {aX:Option Addr} {nX cX:Nat} {ty:ByteArray} {lv:Value} {kind:Int} {neg:Bool} {V bits:Nat} {text:ByteArray} {aL:Option Addr} {nL cL:Nat} {aK:Option Addr} {nK cK:Nat} (h:NrZ w Bx Bf By g o aX nX cX ty lv kind neg V bits text aL nL cL aK nK cK) (hb:Below w.heap.size w w'):NrZ w' Bx Bf By g o aX nX cX ty lv kind neg V bits text aL nL cL aK nK cK:=
 ⟨keep_cell hb h.x,keep_cell hb h.f,keep_cell hb h.y,h.k.below hb⟩
theorem NrZ.grown {w w':World} {r:Option Nat} {Bx Bf By g o:Nat} {aX:Option Addr} {nX cX:Nat} {ty:ByteArray} {lv:Value} {kind:Int} {neg:Bool} {V bits:Nat} {text:ByteArray} {aL:Option Addr} {nL cL:Nat} {aK:Option Addr} {nK cK:Nat} (h:NrZ w Bx Bf By g o aX nX cX ty lv kind neg V bits text aL nL cL aK nK cK) (hg:w.grownBy w' r) (h1:some Bx≠r) (h2:some Bf≠r) (h3:some By≠r) (h4:some g≠r):NrZ w' Bx Bf By g o aX nX cX ty lv kind neg V bits text aL nL cL aK nK cK:=by
 obtain ⟨k0,k1,k2,k3,k4,k5,k6,k7,k8,k9⟩:=h.k.all
 exact ⟨hg.cell h.x h1,hg.cell h.f h2,hg.cell h.y h3,⟨⟨hg.cell k0 h4,hg.cell k1 h4,hg.cell k2 h4,hg.cell k3 h4,hg.cell k4 h4,hg.cell k5 h4,hg.cell k6 h4,hg.cell k7 h4,hg.cell k8 h4,hg.cell k9 h4⟩⟩⟩
def rowTk (l:List Tok):List Value:=l.flatMap fun t=>[.int .i64 t.1,.string t.2]
theorem rowTk_snoc (l:List Tok) (a:Tok):rowTk (l ++ [a])=rowTk l ++ [.int .i64 a.1,.string a.2]:=by
 unfold rowTk
 rw [List.flatMap_append]
 rfl
theorem infoTok:(Tryd.prog.info? 58).map (fun i=>(i.zero,i.size,i.bytes))=some (some (.agg #[.int .i64 0,.string ⟨#[]⟩]),2,24):=by kernel_rfl
theorem rem_gt {s:ByteArray} {i:Nat} (hi:i < s.size) (hr:remN s i=true):i+1≤remE s i:=by
 unfold remN at hr
 rw [Bool.and_eq_true] at hr
 unfold remE
 rw [runE_step hi (by rw [of_decide_eq_true hr.1];rfl)]
 exact runE_ge
theorem ext_size {s:ByteArray} {i j:Nat} (hj:j≤s.size):(s.extract i j).size=j - i:=by
 rw [ByteArray.size_extract]
 omega
theorem ext_max {s:ByteArray} {i j:Nat} (hs:s.size≤8192) (hj:j≤s.size):(s.extract i j).size≤maxLen:=by
 rw [ext_size hj]
 exact Nat.le_trans (show j - i≤8192 by omega) z0g
theorem cat_max {s:ByteArray} {i j:Nat} (hs:s.size≤8192) (hj:j≤s.size):((⟨#[97]⟩:ByteArray) ++ s.extract i j).size≤maxLen:=by
 rw [ByteArray.size_append,ext_size hj]
 exact Nat.le_trans (show 1+(j - i)≤8193 by omega) z0g
theorem len_max {n m:Nat} (h:n≤8192) (hm:m=1):n+m≤maxLen:=Nat.le_trans (show n+m≤8193 by omega) z0g
theorem ext_at {s:ByteArray} {i j k:Nat} (hj:j≤s.size) (hk:i+k < j):byteN (s.extract i j) k=byteN s (i+k):=by
 rw [byteN_at _ k (by rw [ext_size hj];omega),byteN_at s (i+k) z0b]
 congr 1
 exact ByteArray.getElem_extract _
theorem named_one {s:ByteArray} {i:Nat} (hi:i < s.size):named (s.extract i (i+1))=letterN (byteN s i):=by
 have hz:(s.extract i (i+1)).size=1:=by rw [ext_size z0b];omega
 have h0:byteN (s.extract i (i+1)) 0=byteN s i:=ext_at z0b z0b
 unfold named
 rw [hz]
 show (!(false || badN (s.extract i (i+1)) 0) && decide (1≠0))=_
 unfold badN
 rw [h0]
 cases letterN (byteN s i) <;> simp
theorem named_a {s:ByteArray} {i:Nat} (hi:i < s.size):named ((⟨#[97]⟩:ByteArray) ++ s.extract i (i+1))=wordN (byteN s i):=by
 have hz:(s.extract i (i+1)).size=1:=by rw [ext_size z0b];omega
 have hz2:((⟨#[97]⟩:ByteArray) ++ s.extract i (i+1)).size=2:=by rw [ByteArray.size_append,hz];rfl
 have h0:byteN ((⟨#[97]⟩:ByteArray) ++ s.extract i (i+1)) 0=97:=by
  rw [byteN_at _ 0 z0b,ByteArray.getElem_append_left z0g]
  rfl
 have h1:byteN ((⟨#[97]⟩:ByteArray) ++ s.extract i (i+1)) 1=byteN s i:=by
  have h2:byteN (s.extract i (i+1)) 0=byteN s i:=ext_at z0b z0b
  rw [← h2,byteN_at _ 1 z0b,byteN_at _ 0 z0b,ByteArray.getElem_append_right z0g]
  rfl
 unfold named
 rw [hz2]
 show (!((false || badN _ 0) || badN _ 1) && decide (2≠0))=_
 unfold badN wordN
 rw [h0,h1]
 have hl:letterN 97=true:=by decide
 rw [hl]
 by_cases c:byteN s i=95
 ·rw [c];decide
 ·rw [decide_eq_false c]
  cases letterN (byteN s i) <;> cases digitN (byteN s i) <;> simp
theorem news_two {W:World} {a b:Value} {t:TypeId}:∀ j u,[a,b][j]? = some u→(W.alloc (.cells #[a,b] t)).cell? ((⟨W.heap.size,0,none⟩:Addr).add j)=some u:=by
 intro j u hu
 rw [addr_at,Nat.zero_add]
 rcases j with _|_|j
 ·injection hu with hu
  subst hu
  simp [go_sem]
 ·injection hu with hu
  subst hu
  simp [go_sem]
 ·simp at hu
theorem one_tok {k:Int} {s:ByteArray}:∀ u ∈ [Value.int .i64 k,Value.string s],u.oneCell'=true:=by
 intro u hu
 simp only [List.mem_cons,List.not_mem_nil,or_false] at hu
 rcases hu with rfl|rfl <;> rfl
end Go.Proofs.YtfondldmmcmloaaDoor
