/- NrC. -/
import Derived.Test.YtfondldmmcmloaaDoorPd21
set_option maxRecDepth 1000000
set_option maxHeartbeats 8000000
namespace Go.Proofs.YtfondldmmcmloaaDoor
open Go Go.RowKit
theorem z28zs1 {p q:Prop} (h:q) (e:q→p:=by intro hq;(try simp only [Act.put,List.setIfInBounds_toArray,List.set_cons_zero,List.set_cons_succ,List.getElem_toArray,List.getElem_cons_succ,List.getElem_cons_zero]);exact hq):p:=e h
theorem z28zs2 {p q:Prop} (h:q) (e:q→p:=by intro hq;simp only [Act.put,List.setIfInBounds_toArray,List.set_cons_zero,List.set_cons_succ,List.getElem_toArray,List.getElem_cons_succ,List.getElem_cons_zero];exact hq):p:=e h
theorem z28zs3 {p q:Prop} (h:q) (e:q→p:=by intro hq;simp only [Act.put,List.setIfInBounds_toArray,List.set_cons_zero,List.set_cons_succ,List.getElem_toArray,List.getElem_cons_zero];exact hq):p:=e h
theorem z28zk1 {p:Prop} (h:p:=by
 have O6:=NI5.out.o.same (AP.out.block Bo NI5.out.o.lt hlo hko)
 obtain ⟨_,_,_,_,_,_,_,_,_,_⟩:=O6.c.all
 have hf6:=O6.f
 have hl6:=O6.lt
 clear hHeld own1 own2 hg1 hg2 hn1 hn2 OL1 hA
 refine z28zs1 ?_
 refine wpAnyT_ready (rs:=[11]) z0a z0c ?_
 refine AllReadyT.cons rfl (fun K hK=>?_) AllReadyT.nil
 go_simp
 refine hK.out _ _ (fun h=>z0s) (fun _=>?_)
 clear hK K
 refine z28zs1 ?_
 refine wpAnyT_ready (rs:=[12]) z0a z0c ?_
 refine AllReadyT.cons rfl (fun K hK=>?_) AllReadyT.nil
 go_simp
 refine hK.out _ _ (fun h=>z0s) (fun _=>?_)
 clear hK K
 refine z28zs1 ?_
 refine wpAnyT_ready (rs:=[13]) z0a z0c ?_
 refine AllReadyT.cons rfl (fun K hK=>?_) AllReadyT.nil
 go_simp
 refine hK.out _ _ (fun h=>z0s) (fun _=>?_)
 clear hK K
 refine z28zs1 ?_
 refine wpAnyT_done z0a ?_ _
 refine NoPanic.normal ?_
 obtain ⟨t7,ht7⟩:=NI5.out.push NW.out.l.2.2.2.2.2.1 NW.out.l.2.2.2.2.1 AP.out z0p NT.out.i (NT.out.off (HKI.out j hjn) NI.out NW.out.l.2.2.2.2.2.1 NW.out.l.2.2.2.2.1 NW.out.b.size) (fun Q h0 h1=>NT.out.q Q (h0.2.2 j hjn) fun b hb=>h1 b (Nat.le_trans hWr.size hb)) z0v
 have NI7:=Lib.hid ht7
 clear ht7 AP O6 hf6 hl6
 generalize (w6.setCell ⟨Bo,9,none⟩ (.slice (some ⟨gk,0,none⟩) (cn+1) ck)).setCell ⟨Bo,8,none⟩ (.slice (some ⟨gl,0,none⟩) (cn+1) cl)=w7 at *
 repeat any_goals (first|go_skip|go_guarded|go_step|go_upon|(simp only [];done))
 go_roundw
 case rel=>exact ⟨j+1,_,_,t7,by omega,rfl,by rw [cnt_yes HPJ.out,hcn2];exact NI7.out⟩
 case measure=>simp [intOf];omega):p:=h
end Go.Proofs.YtfondldmmcmloaaDoor
namespace Go.Proofs.YtfondldmmcmloaaDoor
open Go.RowKit
theorem pnorm_mk (M:Nat→PM) (a:Option Addr) (n c:Nat) (hTy:Types M n) (hNS:NoScal M n) (kind:Int) (neg:Bool) (V bits:Nat) (text:ByteArray) (aL:Option Addr) (nL cL:Nat) (kids:Nat→VT) (aK:Option Addr) (nK cK:Nat) (keys:Nat→ByteArray) (hK:∀ i,i < nL→PNrm M a n c (kids i)) (hKK:∀ i,i < nL→∀ q,q < (kids i).cnt→PNrm M a n c ((kids i).sub q)):PNrm M a n c (.mk kind neg V bits text aL nL cL kids aK nK cK keys):=by
 intro k w hk hL hin hr hlg hmsg
 have HR:=Lib.hid (right_parts hr)
 have HLG:=Lib.hid (long_parts.1 hlg)
 have HIN:=Lib.hid hin
 have HL:=Lib.hid hL
 obtain ⟨ho,hLL,hkk,hKy⟩:=hin
 have q1:=ho.l
 have q2:=ho.lc
 have q3:=ho.n
 have q4:=ho.nc
 have q5:=hL.l
 have q6:=hL.lc
 have HKY:=Lib.hid hKy
 have HLL:=Lib.hid hLL
 have HKI:=Lib.hid hkk
 obtain ⟨b,off,ea,hbl,-,hmi⟩:=m_lit hL hk (Below.refl _ _)
 have HIm:=Lib.hid hmi
 obtain ⟨m,hm⟩:∃ m,M k=m:=⟨_,rfl⟩
 rw [hm] at HIm hmsg ⊢
 rw [okT_msg] at hmsg
 simp only [Bool.and_eq_true,decide_eq_true_eq,Bool.not_eq_true',any_off,Bool.or_eq_false_iff,Bool.not_eq_false',decide_eq_false_iff_not] at hmsg
 obtain ⟨hk8,hmm⟩:=hmsg
 subst hk8
 obtain rfl:nK=nL:=HR.out.2.1 rfl
 have HMM:=Lib.hid hmm
 obtain ⟨R,hR⟩:∃ R,R=(nrm2 M n (.mk 8 neg V bits text aL nK cL kids aK nK cK keys)).msg m:=⟨_,rfl⟩
 rw [← hR]
 rw [nrm_msg] at hR
 obtain ⟨p,hp⟩:∃ p,keptI m keys kids=p:=⟨_,rfl⟩
 rw [hp] at hR
 have HP:=Lib.hid hp
 obtain ⟨fT,hfT⟩:∃ fT:Nat→VT,fT=fun j=>nrmX M n (fldV m (keys (selI p nK j))) (kids (selI p nK j)) (nrm2 M n (kids (selI p nK j))):=⟨_,rfl⟩
 obtain ⟨fK,hfK⟩:∃ fK:Nat→ByteArray,fK=fun j=>keys (selI p nK j):=⟨_,rfl⟩
 rw [← hfT,← hfK] at hR
 have HRR:=Lib.hid hR
 have HFT:=Lib.hid fun (j:Nat) (hj:j < nK) (hpj:p j=true)=>(show fT (cntN p j)=nrmX M n (fldV m (keys j)) (kids j) (nrm2 M n (kids j))∧fK (cntN p j)=keys j from by rw [hfT,hfK];dsimp only;rw [sel_here hj hpj];exact ⟨rfl,rfl⟩)
 have HFK:=Lib.hid fun (i:Nat) (hi:i < cntN p nK)=>(show fK i=keys (selI p nK i)∧selI p nK i < nK from by rw [hfK];exact ⟨rfl,(sel_spec hi).1⟩)
 have HFA:=Lib.hid fun (s:ByteArray) (hz:0≤placeF m s)=>(show Asks M n (fldV m s).type from by rw [← hm] at hz ⊢;exact fld_asks hTy hk hz)
 have HK2:=Lib.hid fun (j:Nat) (hj:j < nK) (z:Nat) (hz:z < n) wx (hx:Below w.heap.size w wx) (ho:(okT M n (kids j)).msg (M z)=true)=>hK j hj z wx hz (HL.out.below hx) (VT.In.below hx _ (HKI.out j hj)) (HR.out.2.2 j hj) (HLG.out.2.2 j hj) ho
 have HK3:=Lib.hid fun (j:Nat) (hj:j < nK) (q:Nat) (hq:q < (kids j).cnt) (z:Nat) (hz:z < n) wx (hx:Below w.heap.size w wx)=>hKK j hj q hq z wx hz (HL.out.below hx)
 have HNS:=Lib.hid hNS
 obtain ⟨iS,hiS,hsS0,hsS1,hsS2⟩:=info_parts infoStr
 obtain ⟨iV,hiV,hvV0,hvV1,hvV2⟩:=info_parts infoVal
 subst ea
 unfold PM.agg VT.agg VT.cells
 have q7:=HLG.out.1.2.1
 have HT0:=Lib.hid HIN.out
 simp only [maxLen] at q2 q4 q6
 clear hL ho hLL hkk hKy hr hmm hp hR hfT hfK hK hKK hTy hNS hbl hmi hlg hm
 go_enter Tryd.func22,Tryd.ntmps22
 go_upto_region 2 with fail
 have NW:=Lib.hid (nr_start w m 55 35 8 neg V bits text aL nK cL aK nK cK)
 generalize (((w.alloc (.cells #[.string m.name,.slice m.aF m.nF m.cF,.slice m.aN m.nN m.cN,.slice m.aS m.nS m.cS] 55)).alloc (.cells #[.int .i64 8,.bool neg,.int .u64 (lm V 0:Nat),.int .u64 (lm V 1:Nat),.int .u64 (lm V 2:Nat),.int .u64 (lm V 3:Nat),.int .u64 (bits:Nat),.string text,.slice aL nK cL,.slice aK nK cK] 35)).alloc (.cells #[.int .i64 0,.bool false,.int .u64 0,.int .u64 0,.int .u64 0,.int .u64 0,.int .u64 0,.string ⟨#[]⟩,.slice none 0 0,.slice none 0 0] 35)).alloc (.cells #[.int .i64 8,.bool false,.int .u64 0,.int .u64 0,.int .u64 0,.int .u64 0,.int .u64 0,.string ⟨#[]⟩,.slice none 0 0,.slice none 0 0] 35)=W at *
 obtain ⟨Bm,hBm⟩:∃ B,B=w.heap.size:=⟨_,rfl⟩
 obtain ⟨Bv,hBv⟩:∃ B,B=w.heap.size+1:=⟨_,rfl⟩
 obtain ⟨Br,hBr⟩:∃ B,B=w.heap.size+1+1:=⟨_,rfl⟩
 obtain ⟨Bo,hBo⟩:∃ B,B=w.heap.size+1+1+1:=⟨_,rfl⟩
 rw [← hBo,← hBr,← hBv,← hBm] at NW ⊢
 clear hBo hBr hBv hBm
 obtain ⟨_,_,_,_,_,_,_,_,_,_⟩:=NW.out.v.all
 repeat any_goals (first|go_skip|go_guarded|go_step|go_upon|(simp only [];done))
 go_loopw [20] (fun i wr=>∃ (j:Nat) (lv kv:Value) (t:Nat→VT),j≤nK∧i=.int .i64 j∧NrI w W wr Bo (.mk 8 neg V bits text aL nK cL kids aK nK cK keys) fK fT (cntN p j) lv kv t) (fun i _=>nK - (intOf i).toNat)
 case atStart=>exact ⟨0,_,_,default,Nat.zero_le _,rfl,NrI.start NW.out.o⟩
 case round=>
  obtain ⟨j,lv,kv,t,hj,rfl,hI⟩:=hrel
  have NI:=Lib.hid hI
  have hWr:=But.old NW.out.b hI.b NW.out.l.2.2.2.2.2.1
  have Mr:=Lib.hid (NW.out.m.same (hI.b.block Bm NW.out.l.2.1 NW.out.n.1 NW.out.n.1))
  have Vr:=Lib.hid (NW.out.v.same (hI.b.block Bv NW.out.l.2.2.1 NW.out.n.2.1 NW.out.n.2.1))
  obtain ⟨_,_,_,_⟩:=Mr.out.all
  obtain ⟨_,_,_,_,_,_,_,_,_,_⟩:=Vr.out.all
  clear hI
  by_cases hjn:j < nK
  ·obtain ⟨kb,ko,rfl,hkb,hkc,hks⟩:=key_lit HKY.out hjn hWr
   obtain ⟨lb,lo,kind',neg',V',bits',text',aL',nL',cL',kids',aK',nK',cK',keys',rfl,hlb,hkid,hcells,hkin⟩:=kid_lit HLL.out HKI.out hjn hWr
   have KB:=Lib.hid (show KBx wr lb (lo+j * 10) kind' neg' V' bits' text' aL' nL' cL' aK' nK' cK' from ⟨hcells⟩)
   obtain ⟨s,hs⟩:∃ s,keys j=s:=⟨_,rfl⟩
   obtain ⟨f,hf⟩:∃ f,fldV m s=f:=⟨_,rfl⟩
   have C1:=Lib.hid fun wx (hx:Below w.heap.size w wx)=>PField_any m s wx (HIm.out.below hx)
   have hfz:=HMM.out j hjn
   rw [hs] at hfz hkc
   rw [decide_eq_true (show 0≤placeF m s by omega),hf] at C1
   have HAS:=Lib.hid (show Asks M n f.type from by have:=HFA.out s z0b;rwa [hf] at this)
   rw [hf,hkid] at hfz
   have HMO:=Lib.hid hfz.2
   rw [hkid] at hkin
   have HKIN:=Lib.hid hkin
   have HKID:=Lib.hid hkid
   have HS:=Lib.hid hs
   have HF:=Lib.hid hf
   obtain ⟨nm,ty,nu,op,re,ma⟩:=f
   unfold PF.agg at C1
   unfold PM.agg at C1
   have C2:=Lib.hid fun wx=>PEmpty_any ⟨nm,ty,nu,op,re,ma⟩ kind' neg' V' bits' text' aL' nL' cL' aK' nK' cK' HKIN.out.1.v HKIN.out.1.l wx
   unfold PF.agg at C2
   have C3:=Lib.hid fun wx (hx:Below w.heap.size w wx)=>PPlace_any (some ⟨b,off,none⟩) n c M ty wx (HL.out.below hx)
   obtain ⟨lf,hlf⟩:∃ lf,leftB ⟨nm,ty,nu,op,re,ma⟩ kind' neg' V' bits' text' nL'=lf:=⟨_,rfl⟩
   obtain ⟨z,hz⟩:∃ z,placeM M n ty=z:=⟨_,rfl⟩
   rw [hlf] at C2
   rw [hz] at C3
   have HLF:=Lib.hid hlf
   have HZ:=Lib.hid hz
   have HPJ:=Lib.hid (show p j = !lf from by rw [← HP.out];unfold keptI;rw [HS.out,HF.out,HKID.out];show (!leftB _ _ _ _ _ _ _)=_;rw [hlf])
   have i1:(j:Int) < (nK:Int):=by omega
   have i2:(0:Int)≤(j:Int):=by omega
   have i5:(j:Int).toNat=j:=rfl
   clear hs hf hfz hkid hcells hkin hks hlf hz
   go_upto_region 6 with (go_at_call 39;with_reducible refine (C1.out _ hWr).mono ?_;rintro e w1 ⟨rfl,hb1⟩)
   have F1:=Lib.hid (fbx_new w1 nm ty nu op re ma 70)
   have hV1:=below_alloc hb1 (.cells #[.string nm,.string ty,.int .i64 nu,.bool op,.bool re,.bool ma] 70)
   generalize w1.alloc (.cells #[.string nm,.string ty,.int .i64 nu,.bool op,.bool re,.bool ma] 70)=w2 at *
   obtain ⟨Bf,hBf⟩:∃ B,B=w1.heap.size:=⟨_,rfl⟩
   rw [← hBf] at F1 ⊢
   clear hBf hb1
   have V2:=Lib.hid (Vr.out.below hV1)
   have K2:=Lib.hid (KB.out.below hV1)
   obtain ⟨_,_,_,_,_,_,_,_,_,_⟩:=V2.out.all
   obtain ⟨_,_,_,_,_,_,_,_,_,_⟩:=K2.out.all
   go_upto_region 7 with fail
   have X3:=Lib.hid (vbx_new w2 35 kind' neg' V' bits' text' aL' nL' cL' aK' nK' cK')
   have Z3:=Lib.hid (show (∀ j,(w2.alloc (.cells #[.int .i64 kind',.bool neg',.int .u64 (lm V' 0:Nat),.int .u64 (lm V' 1:Nat),.int .u64 (lm V' 2:Nat),.int .u64 (lm V' 3:Nat),.int .u64 (bits':Nat),.string text',.slice aL' nL' cL',.slice aK' nK' cK'] 35)).frozen? ⟨w2.heap.size,j,none⟩=false)∧w2.heap.size < (w2.alloc (.cells #[.int .i64 kind',.bool neg',.int .u64 (lm V' 0:Nat),.int .u64 (lm V' 1:Nat),.int .u64 (lm V' 2:Nat),.int .u64 (lm V' 3:Nat),.int .u64 (bits':Nat),.string text',.slice aL' nL' cL',.slice aK' nK' cK'] 35)).heap.size from ⟨fun j=>by simp [go_sem],by simp⟩)
   have hV3:=below_alloc (Below.refl w2.heap.size w2) (.cells #[.int .i64 kind',.bool neg',.int .u64 (lm V' 0:Nat),.int .u64 (lm V' 1:Nat),.int .u64 (lm V' 2:Nat),.int .u64 (lm V' 3:Nat),.int .u64 (bits':Nat),.string text',.slice aL' nL' cL',.slice aK' nK' cK'] 35)
   generalize w2.alloc (.cells #[.int .i64 kind',.bool neg',.int .u64 (lm V' 0:Nat),.int .u64 (lm V' 1:Nat),.int .u64 (lm V' 2:Nat),.int .u64 (lm V' 3:Nat),.int .u64 (bits':Nat),.string text',.slice aL' nL' cL',.slice aK' nK' cK'] 35)=w3 at *
   obtain ⟨Bx,hBx⟩:∃ B,B=w2.heap.size:=⟨_,rfl⟩
   rw [← hBx] at X3 Z3 ⊢
   have hBxw:wr.heap.size≤Bx:=by rw [hBx];exact hV1.size
   clear hBx
   have F3:=Lib.hid (F1.out.below hV3)
   have hB3:=below_trans hV1 hV3
   obtain ⟨_,_,_,_,_,_⟩:=F3.out.all
   obtain ⟨_,_,_,_,_,_,_,_,_,_⟩:=X3.out.all
   clear V2 K2 F1 hV1 hV3
   cases lf with
   | true=>
    repeat any_goals (first|(go_at_call 41;with_reducible refine (C2.out _).mono ?_;rintro e w4 ⟨rfl,hb4⟩)|go_skip|go_guarded|go_step|go_upon|(dsimp only []))
    go_roundw
    case rel=>exact ⟨j+1,lv,kv,t,by omega,rfl,by rw [cnt_no HPJ.out];exact NI.out.below (below_trans hB3 hb4)⟩
    case measure=>simp [intOf];omega
   | false=>
    go_upto_region 9 with (first|(go_at_call 41;with_reducible refine (C2.out _).mono ?_;rintro e w4 ⟨rfl,hb4⟩;have F4:=Lib.hid (F3.out.below hb4);obtain ⟨_,_,_,_,_,_⟩:=F4.out.all)|(go_at_call 33;with_reducible refine (C3.out _ (below_trans hWr (below_trans hB3 hb4))).mono ?_;rintro e w5 ⟨rfl,hb5⟩))
    have F5:=Lib.hid (F4.out.below hb5)
    have X5:=Lib.hid (X3.out.below (below_trans hb4 hb5))
    have Z5:=Lib.hid (show (∀ j,w5.frozen? ⟨Bx,j,none⟩=false)∧Bx < w5.heap.size from ⟨fun j=>((below_trans hb4 hb5).frozen (p:=⟨Bx,j,none⟩) Z3.out.2).trans (Z3.out.1 j),Nat.lt_of_lt_of_le Z3.out.2 (below_trans hb4 hb5).size⟩)
    have hB5:=below_trans hB3 (below_trans hb4 hb5)
    obtain ⟨_,_,_,_,_,_⟩:=F5.out.all
    clear X3 Z3 F3 F4 hb4 hb5 hB3 C2 C3
    by_cases cz:z < 0
    ·have i3:¬ (0:Int)≤z:=by omega
     have NT:=Lib.hid (show NrT wr w5 (kids j) (fT (cntN p j)) (.mk kind' neg' V' bits' text' aL' nL' cL' kids' aK' nK' cK' keys') from ⟨VT.In.below (below_trans hWr hB5) _ (by have:=HKI.out j hjn;rwa [HKID.out] at this),fun Q h _=>by rwa [HKID.out] at h,by
      rw [(HFT.out j hjn HPJ.out).1,HS.out,HF.out]
      unfold nrmX
      rw [if_pos (by rw [HZ.out];exact cz),HKID.out]
      have:=HR.out.2.2 j hjn
      rw [HKID.out] at this
      exact right_self this⟩)
     go_upto_region 18 with fail
     have NI5:=Lib.hid (NI.out.below hB5)
     have hsz:=NI5.out.b.size
     have hkx:some Bx≠kv.ownBlock:=fun e=>by have:=(NI.out.k.lt Bx e.symm).2;omega
     have hlx:some Bx≠lv.ownBlock:=fun e=>by have:=(NI.out.l.lt Bx e.symm).2;omega
     have hko:some Bo≠kv.ownBlock:=fun e=>by have:=(NI.out.k.lt Bo e.symm).1;have:=NW.out.l.2.2.2.2.1;omega
     have hlo:some Bo≠lv.ownBlock:=fun e=>by have:=(NI.out.l.lt Bo e.symm).1;have:=NW.out.l.2.2.2.2.1;omega
     have hcn:=cnt_le (p:=p) j
     obtain ⟨cn,hcn2⟩:∃ x,cntN p j=x:=⟨_,rfl⟩
     rw [hcn2] at NI5 hcn
     have hS0:NrS w5.drew Bx Bo kind' neg' V' bits' text' aL' nL' cL' aK' nK' cK' lv kv:=NrS.below ⟨X5.out,NI5.out.o.c.all.2.2.2.2.2.2.2.2.1,NI5.out.o.c.all.2.2.2.2.2.2.2.2.2⟩ (Below.refl _ _).drew
     refine wp_region_late (fun w'=>NrS w' Bx Bo kind' neg' V' bits' text' aL' nL' cL' aK' nK' cK' lv kv) (fun i=>decide (11≤i)) z0a hS0 (fun hHeld=>?_)
     clear hS0
     refine wpAnyT_take (i:=0) (v:=?_) rfl z0a z0a z0a z0a z0a (fun _ _ _ h=>h) (Or.inl ⟨by rfl,?_⟩) hHeld ?_
     rotate_left
     (focus (intro wq hSw;obtain ⟨_,_,_,_,_,_,_,_,_,_,_,_⟩:=hSw.all;go_simp;(try with_reducible rfl)))
     refine z28zs3 ?_
     refine wpAnyT_take (i:=1) (v:=?_) rfl z0a z0a z0a z0a z0a (fun _ _ _ h=>h) (Or.inl ⟨by rfl,?_⟩) hHeld ?_
     rotate_left
     (focus (intro wq hSw;obtain ⟨_,_,_,_,_,_,_,_,_,_,_,_⟩:=hSw.all;go_simp;(try with_reducible rfl)))
     refine z28zs2 ?_
     refine wpAnyT_take (i:=2) (v:=?_) rfl z0a z0a z0a z0a z0a (fun _ _ _ h=>h) (Or.inl ⟨by rfl,?_⟩) hHeld ?_
     rotate_left
     (focus (intro wq hSw;obtain ⟨_,_,_,_,_,_,_,_,_,_,_,_⟩:=hSw.all;go_simp;(try with_reducible rfl)))
     refine z28zs2 ?_
     refine wpAnyT_take (i:=5) (v:=?_) rfl z0a z0a z0a z0a z0a (fun _ _ _ h=>h) (Or.inl ⟨by rfl,?_⟩) hHeld ?_
     rotate_left
     (focus (intro wq hSw;obtain ⟨_,_,_,_,_,_,_,_,_,_,_,_⟩:=hSw.all;go_simp;(try with_reducible rfl)))
     refine z28zs2 ?_
     refine wpAnyT_take (i:=6) (v:=?_) rfl z0a z0a z0a z0a z0a (fun _ _ _ h=>h) (Or.inl ⟨by rfl,?_⟩) hHeld ?_
     rotate_left
     (focus (intro wq hSw;obtain ⟨_,_,_,_,_,_,_,_,_,_,_,_⟩:=hSw.all;go_simp;(try with_reducible rfl)))
     refine z28zs2 ?_
     refine wpAnyT_take (i:=7) (v:=?_) rfl z0a z0a z0a z0a z0a (fun _ _ _ h=>h) (Or.inl ⟨by rfl,?_⟩) hHeld ?_
     rotate_left
     (focus (intro wq hSw;obtain ⟨_,_,_,_,_,_,_,_,_,_,_,_⟩:=hSw.all;go_simp;(try with_reducible rfl)))
     refine z28zs2 ?_
     refine wpAnyT_ready (rs:=[3,8]) z0a z0c ?_
     refine AllReadyT.cons rfl (fun K hK=>?_) (AllReadyT.cons rfl (fun K hK=>?_) AllReadyT.nil)
     ·go_simp
      refine hK.out _ _ (fun _=>hHeld.below (below_alloc (Below.refl _ _) _)) (fun hN=>?_)
      clear hK K
      replace hHeld:=hN rfl
      clear hN
      refine z28zs1 ?_
      refine wpAnyT_ready (rs:=[4,8]) z0a z0c ?_
      refine AllReadyT.cons rfl (fun K hK=>?_) (AllReadyT.cons rfl (fun K hK=>?_) AllReadyT.nil)
      ·refine step_append_at rfl (.tmp 87) (.tmp 89) 23 rfl W.heap.size 9 iS (.string ⟨#[]⟩) 1 16 Tryd.underlying23 hiS hsS0 hsS1 hsS2 rfl z0g kv cn (rowK fK cn) z0f (rows_below NI5.out.k (show Below w5.heap.size w5 _ from zb2)) ⟨w5.heap.size,0,none⟩ 1 1 [.string s] z0f rfl (news_one (by simp [go_sem])) oneC_str z0o z0b (Nat.le_trans hsz (show Below w5.heap.size w5 _ from zb2).size) ?_
       intro kv1 wa own1 hg1 hn1
       obtain ⟨gk,ck,rfl⟩:=own_lit own1 z0b
       refine hK.out _ _ (fun _=>hHeld.grown hg1 hkx hko) (fun _=>?_)
       clear hK K
       have HS1:=hHeld.grown hg1 hkx hko
       have hA:=(show Below w5.heap.size w5 (w5.drew.alloc (.cells #[.string s] 9)) from zb2)
       have OL1:=(rows_below NI5.out.l hA).kept hg1 (rows_ne (rows_below NI5.out.l hA) (rows_below NI5.out.k hA) z0g)
       clear hHeld
       have hHeld:=HS1
       clear HS1
       refine z28zs1 ?_
       refine wpAnyT_take (i:=10) (v:=?_) rfl z0a z0a z0a z0a z0a (fun _ _ _ h=>h) (Or.inl ⟨by rfl,?_⟩) hHeld ?_
       rotate_left
       (focus (intro wq hSw;obtain ⟨_,_,_,_,_,_,_,_,_,_,_,_⟩:=hSw.all;go_simp;(try with_reducible rfl)))
       refine z28zs2 ?_
       refine wpAnyT_ready (rs:=[8]) z0a z0c ?_
       refine AllReadyT.cons rfl (fun K hK=>?_) AllReadyT.nil
       go_simp
       refine hK.out _ _ (fun _=>hHeld.below (below_alloc (Below.refl _ _) _)) (fun hN=>?_)
       clear hK K
       replace hHeld:=hN rfl
       clear hN
       refine z28zs1 ?_
       refine wpAnyT_ready (rs:=[9]) z0a z0c ?_
       refine AllReadyT.cons rfl (fun K hK=>?_) AllReadyT.nil
       refine step_append_at rfl (.tmp 92) (.tmp 94) 33 rfl W.heap.size 35 iV (.agg #[.int .i64 0,.bool false,.int .u64 0,.int .u64 0,.int .u64 0,.int .u64 0,.int .u64 0,.string ⟨#[]⟩,.slice none 0 0,.slice none 0 0]) 10 120 Tryd.underlying33 hiV hvV0 hvV1 hvV2 rfl z0g lv cn (rowV t cn) z0f (rows_below OL1 (show Below wa.heap.size wa _ from zb2)) ⟨wa.heap.size,0,none⟩ 1 1 (VT.cells (.mk kind' neg' V' bits' text' aL' nL' cL' kids' aK' nK' cK' keys')) z0f rfl (news_ten (show VBx (wa.alloc (.cells #[.int .i64 kind',.bool neg',.int .u64 (lm V' 0:Nat),.int .u64 (lm V' 1:Nat),.int .u64 (lm V' 2:Nat),.int .u64 (lm V' 3:Nat),.int .u64 (bits':Nat),.string text',.slice aL' nL' cL',.slice aK' nK' cK'] 35)) wa.heap.size kind' neg' V' bits' text' aL' nL' cL' aK' nK' cK' from ⟨by simp [go_sem]⟩)) (cells_one _) z0o z0b (Nat.le_trans (Nat.le_trans hsz hA.size) (Nat.le_trans hg1.size (show Below wa.heap.size wa _ from zb2).size)) ?_
       intro lv1 w6 own2 hg2 hn2
       obtain ⟨gl,cl,rfl⟩:=own_lit own2 z0b
       refine hK.out _ _ (fun _=>hHeld.grown hg2 hlx hlo) (fun _=>?_)
       clear hK K
       have AP:=Lib.hid (ap2_of hA hg1 hn1 own1 (show Below wa.heap.size wa (wa.alloc (.cells #[.int .i64 kind',.bool neg',.int .u64 (lm V' 0:Nat),.int .u64 (lm V' 1:Nat),.int .u64 (lm V' 2:Nat),.int .u64 (lm V' 3:Nat),.int .u64 (bits':Nat),.string text',.slice aL' nL' cL',.slice aK' nK' cK'] 35)) from zb2) hg2 hn2 own2 (rows_below OL1 (show Below wa.heap.size wa (wa.alloc (.cells #[.int .i64 kind',.bool neg',.int .u64 (lm V' 0:Nat),.int .u64 (lm V' 1:Nat),.int .u64 (lm V' 2:Nat),.int .u64 (lm V' 3:Nat),.int .u64 (bits':Nat),.string text',.slice aL' nL' cL',.slice aK' nK' cK'] 35)) from zb2)))
       exact z28zk1
      ·go_simp
       refine hK.out _ _ (fun _=>hHeld.below (below_alloc (Below.refl _ _) _)) (fun hN=>?_)
       clear hK K
       replace hHeld:=hN rfl
       clear hN
       refine z28zs1 ?_
       refine wpAnyT_ready (rs:=[4]) z0a z0c ?_
       refine AllReadyT.cons rfl (fun K hK=>?_) AllReadyT.nil
       refine step_append_at rfl (.tmp 87) (.tmp 89) 23 rfl W.heap.size 9 iS (.string ⟨#[]⟩) 1 16 Tryd.underlying23 hiS hsS0 hsS1 hsS2 rfl z0g kv cn (rowK fK cn) z0f (rows_below NI5.out.k (show Below w5.heap.size w5 _ from zb2)) ⟨w5.heap.size,0,none⟩ 1 1 [.string s] z0f rfl (news_one (by simp [go_sem])) oneC_str z0o z0b (Nat.le_trans hsz (show Below w5.heap.size w5 _ from zb2).size) ?_
       intro kv1 wa own1 hg1 hn1
       obtain ⟨gk,ck,rfl⟩:=own_lit own1 z0b
       refine hK.out _ _ (fun _=>hHeld.grown hg1 hkx hko) (fun _=>?_)
       clear hK K
       have HS1:=hHeld.grown hg1 hkx hko
       have hA:=(show Below w5.heap.size w5 ((w5.drew.alloc (.cells #[.string s] 9)).alloc (.cells #[.int .i64 kind',.bool neg',.int .u64 (lm V' 0:Nat),.int .u64 (lm V' 1:Nat),.int .u64 (lm V' 2:Nat),.int .u64 (lm V' 3:Nat),.int .u64 (bits':Nat),.string text',.slice aL' nL' cL',.slice aK' nK' cK'] 35)) from zb2)
       have OL1:=(rows_below NI5.out.l hA).kept hg1 (rows_ne (rows_below NI5.out.l hA) (rows_below NI5.out.k hA) z0g)
       have XV1:VBx wa (w5.heap.size+1) kind' neg' V' bits' text' aL' nL' cL' aK' nK' cK':=VBx.same (show VBx ((w5.drew.alloc (.cells #[.string s] 9)).alloc (.cells #[.int .i64 kind',.bool neg',.int .u64 (lm V' 0:Nat),.int .u64 (lm V' 1:Nat),.int .u64 (lm V' 2:Nat),.int .u64 (lm V' 3:Nat),.int .u64 (bits':Nat),.string text',.slice aL' nL' cL',.slice aK' nK' cK'] 35)) (w5.heap.size+1) kind' neg' V' bits' text' aL' nL' cL' aK' nK' cK' from ⟨by simp [go_sem]⟩) (hg1.block (w5.heap.size+1) (by simp <;> omega) (fun e=>by have:=(NI5.out.k.lt _ e.symm).2;omega))
       clear hHeld
       have hHeld:=HS1
       clear HS1
       refine z28zs1 ?_
       refine wpAnyT_take (i:=10) (v:=?_) rfl z0a z0a z0a z0a z0a (fun _ _ _ h=>h) (Or.inl ⟨by rfl,?_⟩) hHeld ?_
       rotate_left
       (focus (intro wq hSw;obtain ⟨_,_,_,_,_,_,_,_,_,_,_,_⟩:=hSw.all;go_simp;(try with_reducible rfl)))
       refine z28zs2 ?_
       refine wpAnyT_ready (rs:=[9]) z0a z0c ?_
       refine AllReadyT.cons rfl (fun K hK=>?_) AllReadyT.nil
       refine step_append_at rfl (.tmp 92) (.tmp 94) 33 rfl W.heap.size 35 iV (.agg #[.int .i64 0,.bool false,.int .u64 0,.int .u64 0,.int .u64 0,.int .u64 0,.int .u64 0,.string ⟨#[]⟩,.slice none 0 0,.slice none 0 0]) 10 120 Tryd.underlying33 hiV hvV0 hvV1 hvV2 rfl z0g lv cn (rowV t cn) z0f (rows_below OL1 (show Below wa.heap.size wa _ from zb2)) ⟨w5.heap.size+1,0,none⟩ 1 1 (VT.cells (.mk kind' neg' V' bits' text' aL' nL' cL' kids' aK' nK' cK' keys')) z0f rfl (news_ten XV1) (cells_one _) z0o z0b (Nat.le_trans (Nat.le_trans hsz hA.size) (Nat.le_trans hg1.size (show Below wa.heap.size wa _ from zb2).size)) ?_
       intro lv1 w6 own2 hg2 hn2
       obtain ⟨gl,cl,rfl⟩:=own_lit own2 z0b
       refine hK.out _ _ (fun _=>hHeld.grown hg2 hlx hlo) (fun _=>?_)
       clear hK K
       have AP:=Lib.hid (ap2_of hA hg1 hn1 own1 (show Below wa.heap.size wa wa from zb2) hg2 hn2 own2 (rows_below OL1 (show Below wa.heap.size wa wa from zb2)))
       exact z28zk1
     ·go_simp
      refine hK.out _ _ (fun _=>hHeld.below (below_alloc (Below.refl _ _) _)) (fun hN=>?_)
      clear hK K
      replace hHeld:=hN rfl
      clear hN
      refine z28zs1 ?_
      refine wpAnyT_ready (rs:=[3]) z0a z0c ?_
      refine AllReadyT.cons rfl (fun K hK=>?_) AllReadyT.nil
      go_simp
      refine hK.out _ _ (fun _=>hHeld.below (below_alloc (Below.refl _ _) _)) (fun hN=>?_)
      clear hK K
      replace hHeld:=hN rfl
      clear hN
      refine z28zs1 ?_
      refine wpAnyT_ready (rs:=[4]) z0a z0c ?_
      refine AllReadyT.cons rfl (fun K hK=>?_) AllReadyT.nil
      refine step_append_at rfl (.tmp 87) (.tmp 89) 23 rfl W.heap.size 9 iS (.string ⟨#[]⟩) 1 16 Tryd.underlying23 hiS hsS0 hsS1 hsS2 rfl z0g kv cn (rowK fK cn) z0f (rows_below NI5.out.k (show Below w5.heap.size w5 _ from zb2)) ⟨w5.heap.size+1,0,none⟩ 1 1 [.string s] z0f rfl (news_one (by simp [go_sem])) oneC_str z0o z0b (Nat.le_trans hsz (show Below w5.heap.size w5 _ from zb2).size) ?_
      intro kv1 wa own1 hg1 hn1
      obtain ⟨gk,ck,rfl⟩:=own_lit own1 z0b
      refine hK.out _ _ (fun _=>hHeld.grown hg1 hkx hko) (fun _=>?_)
      clear hK K
      have HS1:=hHeld.grown hg1 hkx hko
      have hA:=(show Below w5.heap.size w5 ((w5.drew.alloc (.cells #[.int .i64 kind',.bool neg',.int .u64 (lm V' 0:Nat),.int .u64 (lm V' 1:Nat),.int .u64 (lm V' 2:Nat),.int .u64 (lm V' 3:Nat),.int .u64 (bits':Nat),.string text',.slice aL' nL' cL',.slice aK' nK' cK'] 35)).alloc (.cells #[.string s] 9)) from zb2)
      have OL1:=(rows_below NI5.out.l hA).kept hg1 (rows_ne (rows_below NI5.out.l hA) (rows_below NI5.out.k hA) z0g)
      have XV1:VBx wa w5.heap.size kind' neg' V' bits' text' aL' nL' cL' aK' nK' cK':=VBx.same (show VBx ((w5.drew.alloc (.cells #[.int .i64 kind',.bool neg',.int .u64 (lm V' 0:Nat),.int .u64 (lm V' 1:Nat),.int .u64 (lm V' 2:Nat),.int .u64 (lm V' 3:Nat),.int .u64 (bits':Nat),.string text',.slice aL' nL' cL',.slice aK' nK' cK'] 35)).alloc (.cells #[.string s] 9)) w5.heap.size kind' neg' V' bits' text' aL' nL' cL' aK' nK' cK' from ⟨by simp [go_sem]⟩) (hg1.block w5.heap.size (by simp <;> omega) (fun e=>by have:=(NI5.out.k.lt _ e.symm).2;omega))
      clear hHeld
      have hHeld:=HS1
      clear HS1
      refine z28zs1 ?_
      refine wpAnyT_take (i:=10) (v:=?_) rfl z0a z0a z0a z0a z0a (fun _ _ _ h=>h) (Or.inl ⟨by rfl,?_⟩) hHeld ?_
      rotate_left
      (focus (intro wq hSw;obtain ⟨_,_,_,_,_,_,_,_,_,_,_,_⟩:=hSw.all;go_simp;(try with_reducible rfl)))
      refine z28zs2 ?_
      refine wpAnyT_ready (rs:=[9]) z0a z0c ?_
      refine AllReadyT.cons rfl (fun K hK=>?_) AllReadyT.nil
      refine step_append_at rfl (.tmp 92) (.tmp 94) 33 rfl W.heap.size 35 iV (.agg #[.int .i64 0,.bool false,.int .u64 0,.int .u64 0,.int .u64 0,.int .u64 0,.int .u64 0,.string ⟨#[]⟩,.slice none 0 0,.slice none 0 0]) 10 120 Tryd.underlying33 hiV hvV0 hvV1 hvV2 rfl z0g lv cn (rowV t cn) z0f (rows_below OL1 (show Below wa.heap.size wa _ from zb2)) ⟨w5.heap.size,0,none⟩ 1 1 (VT.cells (.mk kind' neg' V' bits' text' aL' nL' cL' kids' aK' nK' cK' keys')) z0f rfl (news_ten XV1) (cells_one _) z0o z0b (Nat.le_trans (Nat.le_trans hsz hA.size) (Nat.le_trans hg1.size (show Below wa.heap.size wa _ from zb2).size)) ?_
      intro lv1 w6 own2 hg2 hn2
      obtain ⟨gl,cl,rfl⟩:=own_lit own2 z0b
      refine hK.out _ _ (fun _=>hHeld.grown hg2 hlx hlo) (fun _=>?_)
      clear hK K
      have AP:=Lib.hid (ap2_of hA hg1 hn1 own1 (show Below wa.heap.size wa wa from zb2) hg2 hn2 own2 (rows_below OL1 (show Below wa.heap.size wa wa from zb2)))
      exact z28zk1
    ·obtain ⟨zk,hzk⟩:∃ zk:Nat,z=zk:=⟨z.toNat,by omega⟩
     subst hzk
     have hzn:zk < n:=by have:=placeM_lt (M:=M) (n:=n) (s:=ty);rw [HZ.out] at this;omega
     obtain ⟨bM,oM,eM,hbM,hM4,-⟩:=m_lit HL.out hzn (below_trans hWr hB5)
     injection eM with eM
     injection eM with eM1 eM2
     subst eM1 eM2
     obtain ⟨mz,hmz⟩:∃ mz,M zk=mz:=⟨_,rfl⟩
     rw [hmz] at hM4
     have P5:=Lib.hid (show ML w5 b (off+zk * 4) mz from ⟨⟨hM4.all.1,hM4.all.2.1,hM4.all.2.2.1,hM4.all.2.2.2,trivial⟩⟩)
     have HMZ:=Lib.hid hmz
     have i3:(0:Int)≤(zk:Int):=by omega
     have i4:(zk:Int) < (n:Int):=by omega
     have i6:(zk:Int).toNat=zk:=rfl
     have HNX:=Lib.hid (show ∀ r,nrmX M n ⟨nm,ty,nu,op,re,ma⟩ (kids j) r=if (re || ma)=true then r.all mz else r.msg mz from fun r=>by
      unfold nrmX
      rw [if_neg (by rw [HZ.out];omega),HZ.out]
      show (if (re || ma)=true then r.all (M zk) else r.msg (M zk))=_
      rw [HMZ.out])
     clear hM4 hmz hbM
     obtain ⟨rm,hrm⟩:∃ x,(re || ma)=x:=⟨_,rfl⟩
     cases rm with
     | false=>
      obtain ⟨rfl,rfl⟩:re=false∧ma=false:=by simpa using hrm
      have C4:=Lib.hid fun wx (hx:Below w.heap.size w wx)=>HK2.out j hjn zk hzn wx hx (by
       have h1:=HMO.out
       unfold memO at h1
       rw [if_neg Bool.false_ne_true,if_neg Bool.false_ne_true] at h1
       have h2:=one_msg HNS.out (s:=ty) (by rw [HZ.out];omega) (kids j)
       rw [HZ.out] at h2
       rw [HKID.out] at h2 ⊢
       exact h2.symm.trans h1)
      rw [HMZ.out,HKID.out] at C4
      unfold PM.agg VT.agg VT.cells at C4
      go_upto_region 17 with fail
      obtain ⟨_,_,_,_,_⟩:=P5.out.all
      obtain ⟨_,_,_,_,_,_,_,_,_,_⟩:=X5.out.all
      (refine still_tail 6 z0a z0a ?_;simp only [List.take_succ_cons,List.take_zero,List.drop_succ_cons,List.drop_zero];(repeat still_step);refine wpStill_nil ?_)
      have hW5:=below_trans hWr (below_trans hB5 (Below.refl w5.heap.size w5).drew)
      repeat any_goals (first|(go_at_call 22;with_reducible refine (C4.out _ hW5).mono ?_;rintro e w6 ⟨tt,rfl,hNT,hb6⟩;obtain ⟨kindt,negt,Vt,bitst,textt,aLt,nLt,cLt,kidst,aKt,nKt,cKt,keyst,rfl⟩:=VT.In.lit hNT.i;simp only;have hd6:=below_trans (Below.refl w5.heap.size w5).drew hb6;have X6:=Lib.hid (X5.out.below hd6);obtain ⟨_,_,_,_,_,_,_,_,_,_⟩:=X6.out.all;have hf6:∀ j,w6.frozen? ⟨Bx,j,none⟩=false:=(fun j=>(hd6.frozen (p:=⟨Bx,j,none⟩) Z5.out.2).trans (Z5.out.1 j));have hl6:=Nat.lt_of_lt_of_le Z5.out.2 hd6.size)|go_skip|go_guarded|go_step|go_upon|(dsimp only []))
      have hs7:w6.heap.size≤(((((((((((w6.setCell ⟨Bx,0,none⟩ (.int .i64 kindt)).setCell ⟨Bx,1,none⟩ (.bool negt)).setCell ⟨Bx,2,none⟩ (.int .u64 (lm Vt 0:Nat))).setCell ⟨Bx,3,none⟩ (.int .u64 (lm Vt 1:Nat))).setCell ⟨Bx,4,none⟩ (.int .u64 (lm Vt 2:Nat))).setCell ⟨Bx,5,none⟩ (.int .u64 (lm Vt 3:Nat))).setCell ⟨Bx,6,none⟩ (.int .u64 (bitst:Nat))).setCell ⟨Bx,7,none⟩ (.string textt)).setCell ⟨Bx,8,none⟩ (.slice aLt nLt cLt)).setCell ⟨Bx,9,none⟩ (.slice aKt nKt cKt))).heap.size:=z0c
      have hb7:∀ b,b≠Bx→(((((((((((w6.setCell ⟨Bx,0,none⟩ (.int .i64 kindt)).setCell ⟨Bx,1,none⟩ (.bool negt)).setCell ⟨Bx,2,none⟩ (.int .u64 (lm Vt 0:Nat))).setCell ⟨Bx,3,none⟩ (.int .u64 (lm Vt 1:Nat))).setCell ⟨Bx,4,none⟩ (.int .u64 (lm Vt 2:Nat))).setCell ⟨Bx,5,none⟩ (.int .u64 (lm Vt 3:Nat))).setCell ⟨Bx,6,none⟩ (.int .u64 (bitst:Nat))).setCell ⟨Bx,7,none⟩ (.string textt)).setCell ⟨Bx,8,none⟩ (.slice aLt nLt cLt)).setCell ⟨Bx,9,none⟩ (.slice aKt nKt cKt))).heap[b]? = w6.heap[b]? := fun b hb=>set10_block hb
      have X7:=Lib.hid (show VBx ((((((((((w6.setCell ⟨Bx,0,none⟩ (.int .i64 kindt)).setCell ⟨Bx,1,none⟩ (.bool negt)).setCell ⟨Bx,2,none⟩ (.int .u64 (lm Vt 0:Nat))).setCell ⟨Bx,3,none⟩ (.int .u64 (lm Vt 1:Nat))).setCell ⟨Bx,4,none⟩ (.int .u64 (lm Vt 2:Nat))).setCell ⟨Bx,5,none⟩ (.int .u64 (lm Vt 3:Nat))).setCell ⟨Bx,6,none⟩ (.int .u64 (bitst:Nat))).setCell ⟨Bx,7,none⟩ (.string textt)).setCell ⟨Bx,8,none⟩ (.slice aLt nLt cLt)).setCell ⟨Bx,9,none⟩ (.slice aKt nKt cKt)) Bx kindt negt Vt bitst textt aLt nLt cLt aKt nKt cKt from ⟨by simp [go_sem, *]⟩)
      have hB6:=below_trans hB5 hd6
      have hB7:Below wr.heap.size wr ((((((((((w6.setCell ⟨Bx,0,none⟩ (.int .i64 kindt)).setCell ⟨Bx,1,none⟩ (.bool negt)).setCell ⟨Bx,2,none⟩ (.int .u64 (lm Vt 0:Nat))).setCell ⟨Bx,3,none⟩ (.int .u64 (lm Vt 1:Nat))).setCell ⟨Bx,4,none⟩ (.int .u64 (lm Vt 2:Nat))).setCell ⟨Bx,5,none⟩ (.int .u64 (lm Vt 3:Nat))).setCell ⟨Bx,6,none⟩ (.int .u64 (bitst:Nat))).setCell ⟨Bx,7,none⟩ (.string textt)).setCell ⟨Bx,8,none⟩ (.slice aLt nLt cLt)).setCell ⟨Bx,9,none⟩ (.slice aKt nKt cKt)):=zb2
      generalize ((((((((((w6.setCell ⟨Bx,0,none⟩ (.int .i64 kindt)).setCell ⟨Bx,1,none⟩ (.bool negt)).setCell ⟨Bx,2,none⟩ (.int .u64 (lm Vt 0:Nat))).setCell ⟨Bx,3,none⟩ (.int .u64 (lm Vt 1:Nat))).setCell ⟨Bx,4,none⟩ (.int .u64 (lm Vt 2:Nat))).setCell ⟨Bx,5,none⟩ (.int .u64 (lm Vt 3:Nat))).setCell ⟨Bx,6,none⟩ (.int .u64 (bitst:Nat))).setCell ⟨Bx,7,none⟩ (.string textt)).setCell ⟨Bx,8,none⟩ (.slice aLt nLt cLt)).setCell ⟨Bx,9,none⟩ (.slice aKt nKt cKt))=w7 at *
      have NT:=Lib.hid (show NrT wr w7 (kids j) (fT (cntN p j)) (.mk kindt negt Vt bitst textt aLt nLt cLt kidst aKt nKt cKt keyst) from ⟨hNT.i.kept hs7 (fun b _ h=>hb7 b h) (hNT.q (fun b=>b≠Bx) (HKIN.out.blk.mono fun b (hb:b < wr.heap.size)=>by omega) (fun b (hb:w5.heap.size≤b)=>by have:=Z5.out.2;omega)),fun Q h0 h1=>hNT.q Q (by rwa [HKID.out] at h0) (fun b (hb:w5.heap.size≤b)=>h1 b (Nat.le_trans hB5.size hb)),by
       rw [(HFT.out j hjn HPJ.out).1,HS.out,HF.out,HNX.out,if_neg z0g,HKID.out]
       exact hNT.s⟩)
      clear hB5 hB6 hNT hd6 hb6 X6 hf6 hl6 hb7 hs7 C4 P5 X5 F5 hW5
      have hB5:=hB7
      clear hB7
      go_upto_region 18 with fail
      have NI5:=Lib.hid (NI.out.below hB5)
      have hsz:=NI5.out.b.size
      have hkx:some Bx≠kv.ownBlock:=fun e=>by have:=(NI.out.k.lt Bx e.symm).2;omega
      have hlx:some Bx≠lv.ownBlock:=fun e=>by have:=(NI.out.l.lt Bx e.symm).2;omega
      have hko:some Bo≠kv.ownBlock:=fun e=>by have:=(NI.out.k.lt Bo e.symm).1;have:=NW.out.l.2.2.2.2.1;omega
      have hlo:some Bo≠lv.ownBlock:=fun e=>by have:=(NI.out.l.lt Bo e.symm).1;have:=NW.out.l.2.2.2.2.1;omega
      have hcn:=cnt_le (p:=p) j
      obtain ⟨cn,hcn2⟩:∃ x,cntN p j=x:=⟨_,rfl⟩
      rw [hcn2] at NI5 hcn
      have hS0:NrS w7.drew Bx Bo kindt negt Vt bitst textt aLt nLt cLt aKt nKt cKt lv kv:=NrS.below ⟨X7.out,NI5.out.o.c.all.2.2.2.2.2.2.2.2.1,NI5.out.o.c.all.2.2.2.2.2.2.2.2.2⟩ (Below.refl _ _).drew
      refine wp_region_late (fun w'=>NrS w' Bx Bo kindt negt Vt bitst textt aLt nLt cLt aKt nKt cKt lv kv) (fun i=>decide (11≤i)) z0a hS0 (fun hHeld=>?_)
      clear hS0
      refine wpAnyT_take (i:=0) (v:=?_) rfl z0a z0a z0a z0a z0a (fun _ _ _ h=>h) (Or.inl ⟨by rfl,?_⟩) hHeld ?_
      rotate_left
      (focus (intro wq hSw;obtain ⟨_,_,_,_,_,_,_,_,_,_,_,_⟩:=hSw.all;go_simp;(try with_reducible rfl)))
      refine z28zs3 ?_
      refine wpAnyT_take (i:=1) (v:=?_) rfl z0a z0a z0a z0a z0a (fun _ _ _ h=>h) (Or.inl ⟨by rfl,?_⟩) hHeld ?_
      rotate_left
      (focus (intro wq hSw;obtain ⟨_,_,_,_,_,_,_,_,_,_,_,_⟩:=hSw.all;go_simp;(try with_reducible rfl)))
      refine z28zs2 ?_
      refine wpAnyT_take (i:=2) (v:=?_) rfl z0a z0a z0a z0a z0a (fun _ _ _ h=>h) (Or.inl ⟨by rfl,?_⟩) hHeld ?_
      rotate_left
      (focus (intro wq hSw;obtain ⟨_,_,_,_,_,_,_,_,_,_,_,_⟩:=hSw.all;go_simp;(try with_reducible rfl)))
      refine z28zs2 ?_
      refine wpAnyT_take (i:=5) (v:=?_) rfl z0a z0a z0a z0a z0a (fun _ _ _ h=>h) (Or.inl ⟨by rfl,?_⟩) hHeld ?_
      rotate_left
      (focus (intro wq hSw;obtain ⟨_,_,_,_,_,_,_,_,_,_,_,_⟩:=hSw.all;go_simp;(try with_reducible rfl)))
      refine z28zs2 ?_
      refine wpAnyT_take (i:=6) (v:=?_) rfl z0a z0a z0a z0a z0a (fun _ _ _ h=>h) (Or.inl ⟨by rfl,?_⟩) hHeld ?_
      rotate_left
      (focus (intro wq hSw;obtain ⟨_,_,_,_,_,_,_,_,_,_,_,_⟩:=hSw.all;go_simp;(try with_reducible rfl)))
      refine z28zs2 ?_
      refine wpAnyT_take (i:=7) (v:=?_) rfl z0a z0a z0a z0a z0a (fun _ _ _ h=>h) (Or.inl ⟨by rfl,?_⟩) hHeld ?_
      rotate_left
      (focus (intro wq hSw;obtain ⟨_,_,_,_,_,_,_,_,_,_,_,_⟩:=hSw.all;go_simp;(try with_reducible rfl)))
      refine z28zs2 ?_
      refine wpAnyT_ready (rs:=[3,8]) z0a z0c ?_
      refine AllReadyT.cons rfl (fun K hK=>?_) (AllReadyT.cons rfl (fun K hK=>?_) AllReadyT.nil)
      ·go_simp
       refine hK.out _ _ (fun _=>hHeld.below (below_alloc (Below.refl _ _) _)) (fun hN=>?_)
       clear hK K
       replace hHeld:=hN rfl
       clear hN
       refine z28zs1 ?_
       refine wpAnyT_ready (rs:=[4,8]) z0a z0c ?_
       refine AllReadyT.cons rfl (fun K hK=>?_) (AllReadyT.cons rfl (fun K hK=>?_) AllReadyT.nil)
       ·refine step_append_at rfl (.tmp 87) (.tmp 89) 23 rfl W.heap.size 9 iS (.string ⟨#[]⟩) 1 16 Tryd.underlying23 hiS hsS0 hsS1 hsS2 rfl z0g kv cn (rowK fK cn) z0f (rows_below NI5.out.k (show Below w7.heap.size w7 _ from zb2)) ⟨w7.heap.size,0,none⟩ 1 1 [.string s] z0f rfl (news_one (by simp [go_sem])) oneC_str z0o z0b (Nat.le_trans hsz (show Below w7.heap.size w7 _ from zb2).size) ?_
        intro kv1 wa own1 hg1 hn1
        obtain ⟨gk,ck,rfl⟩:=own_lit own1 z0b
        refine hK.out _ _ (fun _=>hHeld.grown hg1 hkx hko) (fun _=>?_)
        clear hK K
        have HS1:=hHeld.grown hg1 hkx hko
        have hA:=(show Below w7.heap.size w7 (w7.drew.alloc (.cells #[.string s] 9)) from zb2)
        have OL1:=(rows_below NI5.out.l hA).kept hg1 (rows_ne (rows_below NI5.out.l hA) (rows_below NI5.out.k hA) z0g)
        clear hHeld
        have hHeld:=HS1
        clear HS1
        refine z28zs1 ?_
        refine wpAnyT_take (i:=10) (v:=?_) rfl z0a z0a z0a z0a z0a (fun _ _ _ h=>h) (Or.inl ⟨by rfl,?_⟩) hHeld ?_
        rotate_left
        (focus (intro wq hSw;obtain ⟨_,_,_,_,_,_,_,_,_,_,_,_⟩:=hSw.all;go_simp;(try with_reducible rfl)))
        refine z28zs2 ?_
        refine wpAnyT_ready (rs:=[8]) z0a z0c ?_
        refine AllReadyT.cons rfl (fun K hK=>?_) AllReadyT.nil
        go_simp
        refine hK.out _ _ (fun _=>hHeld.below (below_alloc (Below.refl _ _) _)) (fun hN=>?_)
        clear hK K
        replace hHeld:=hN rfl
        clear hN
        refine z28zs1 ?_
        refine wpAnyT_ready (rs:=[9]) z0a z0c ?_
        refine AllReadyT.cons rfl (fun K hK=>?_) AllReadyT.nil
        refine step_append_at rfl (.tmp 92) (.tmp 94) 33 rfl W.heap.size 35 iV (.agg #[.int .i64 0,.bool false,.int .u64 0,.int .u64 0,.int .u64 0,.int .u64 0,.int .u64 0,.string ⟨#[]⟩,.slice none 0 0,.slice none 0 0]) 10 120 Tryd.underlying33 hiV hvV0 hvV1 hvV2 rfl z0g lv cn (rowV t cn) z0f (rows_below OL1 (show Below wa.heap.size wa _ from zb2)) ⟨wa.heap.size,0,none⟩ 1 1 (VT.cells (.mk kindt negt Vt bitst textt aLt nLt cLt kidst aKt nKt cKt keyst)) z0f rfl (news_ten (show VBx (wa.alloc (.cells #[.int .i64 kindt,.bool negt,.int .u64 (lm Vt 0:Nat),.int .u64 (lm Vt 1:Nat),.int .u64 (lm Vt 2:Nat),.int .u64 (lm Vt 3:Nat),.int .u64 (bitst:Nat),.string textt,.slice aLt nLt cLt,.slice aKt nKt cKt] 35)) wa.heap.size kindt negt Vt bitst textt aLt nLt cLt aKt nKt cKt from ⟨by simp [go_sem]⟩)) (cells_one _) z0o z0b (Nat.le_trans (Nat.le_trans hsz hA.size) (Nat.le_trans hg1.size (show Below wa.heap.size wa _ from zb2).size)) ?_
        intro lv1 w6 own2 hg2 hn2
        obtain ⟨gl,cl,rfl⟩:=own_lit own2 z0b
        refine hK.out _ _ (fun _=>hHeld.grown hg2 hlx hlo) (fun _=>?_)
        clear hK K
        have AP:=Lib.hid (ap2_of hA hg1 hn1 own1 (show Below wa.heap.size wa (wa.alloc (.cells #[.int .i64 kindt,.bool negt,.int .u64 (lm Vt 0:Nat),.int .u64 (lm Vt 1:Nat),.int .u64 (lm Vt 2:Nat),.int .u64 (lm Vt 3:Nat),.int .u64 (bitst:Nat),.string textt,.slice aLt nLt cLt,.slice aKt nKt cKt] 35)) from zb2) hg2 hn2 own2 (rows_below OL1 (show Below wa.heap.size wa (wa.alloc (.cells #[.int .i64 kindt,.bool negt,.int .u64 (lm Vt 0:Nat),.int .u64 (lm Vt 1:Nat),.int .u64 (lm Vt 2:Nat),.int .u64 (lm Vt 3:Nat),.int .u64 (bitst:Nat),.string textt,.slice aLt nLt cLt,.slice aKt nKt cKt] 35)) from zb2)))
        exact z28zk1
       ·go_simp
        refine hK.out _ _ (fun _=>hHeld.below (below_alloc (Below.refl _ _) _)) (fun hN=>?_)
        clear hK K
        replace hHeld:=hN rfl
        clear hN
        refine z28zs1 ?_
        refine wpAnyT_ready (rs:=[4]) z0a z0c ?_
        refine AllReadyT.cons rfl (fun K hK=>?_) AllReadyT.nil
        refine step_append_at rfl (.tmp 87) (.tmp 89) 23 rfl W.heap.size 9 iS (.string ⟨#[]⟩) 1 16 Tryd.underlying23 hiS hsS0 hsS1 hsS2 rfl z0g kv cn (rowK fK cn) z0f (rows_below NI5.out.k (show Below w7.heap.size w7 _ from zb2)) ⟨w7.heap.size,0,none⟩ 1 1 [.string s] z0f rfl (news_one (by simp [go_sem])) oneC_str z0o z0b (Nat.le_trans hsz (show Below w7.heap.size w7 _ from zb2).size) ?_
        intro kv1 wa own1 hg1 hn1
        obtain ⟨gk,ck,rfl⟩:=own_lit own1 z0b
        refine hK.out _ _ (fun _=>hHeld.grown hg1 hkx hko) (fun _=>?_)
        clear hK K
        have HS1:=hHeld.grown hg1 hkx hko
        have hA:=(show Below w7.heap.size w7 ((w7.drew.alloc (.cells #[.string s] 9)).alloc (.cells #[.int .i64 kindt,.bool negt,.int .u64 (lm Vt 0:Nat),.int .u64 (lm Vt 1:Nat),.int .u64 (lm Vt 2:Nat),.int .u64 (lm Vt 3:Nat),.int .u64 (bitst:Nat),.string textt,.slice aLt nLt cLt,.slice aKt nKt cKt] 35)) from zb2)
        have OL1:=(rows_below NI5.out.l hA).kept hg1 (rows_ne (rows_below NI5.out.l hA) (rows_below NI5.out.k hA) z0g)
        have XV1:VBx wa (w7.heap.size+1) kindt negt Vt bitst textt aLt nLt cLt aKt nKt cKt:=VBx.same (show VBx ((w7.drew.alloc (.cells #[.string s] 9)).alloc (.cells #[.int .i64 kindt,.bool negt,.int .u64 (lm Vt 0:Nat),.int .u64 (lm Vt 1:Nat),.int .u64 (lm Vt 2:Nat),.int .u64 (lm Vt 3:Nat),.int .u64 (bitst:Nat),.string textt,.slice aLt nLt cLt,.slice aKt nKt cKt] 35)) (w7.heap.size+1) kindt negt Vt bitst textt aLt nLt cLt aKt nKt cKt from ⟨by simp [go_sem]⟩) (hg1.block (w7.heap.size+1) (by simp <;> omega) (fun e=>by have:=(NI5.out.k.lt _ e.symm).2;omega))
        clear hHeld
        have hHeld:=HS1
        clear HS1
        refine z28zs1 ?_
        refine wpAnyT_take (i:=10) (v:=?_) rfl z0a z0a z0a z0a z0a (fun _ _ _ h=>h) (Or.inl ⟨by rfl,?_⟩) hHeld ?_
        rotate_left
        (focus (intro wq hSw;obtain ⟨_,_,_,_,_,_,_,_,_,_,_,_⟩:=hSw.all;go_simp;(try with_reducible rfl)))
        refine z28zs2 ?_
        refine wpAnyT_ready (rs:=[9]) z0a z0c ?_
        refine AllReadyT.cons rfl (fun K hK=>?_) AllReadyT.nil
        refine step_append_at rfl (.tmp 92) (.tmp 94) 33 rfl W.heap.size 35 iV (.agg #[.int .i64 0,.bool false,.int .u64 0,.int .u64 0,.int .u64 0,.int .u64 0,.int .u64 0,.string ⟨#[]⟩,.slice none 0 0,.slice none 0 0]) 10 120 Tryd.underlying33 hiV hvV0 hvV1 hvV2 rfl z0g lv cn (rowV t cn) z0f (rows_below OL1 (show Below wa.heap.size wa _ from zb2)) ⟨w7.heap.size+1,0,none⟩ 1 1 (VT.cells (.mk kindt negt Vt bitst textt aLt nLt cLt kidst aKt nKt cKt keyst)) z0f rfl (news_ten XV1) (cells_one _) z0o z0b (Nat.le_trans (Nat.le_trans hsz hA.size) (Nat.le_trans hg1.size (show Below wa.heap.size wa _ from zb2).size)) ?_
        intro lv1 w6 own2 hg2 hn2
        obtain ⟨gl,cl,rfl⟩:=own_lit own2 z0b
        refine hK.out _ _ (fun _=>hHeld.grown hg2 hlx hlo) (fun _=>?_)
        clear hK K
        have AP:=Lib.hid (ap2_of hA hg1 hn1 own1 (show Below wa.heap.size wa wa from zb2) hg2 hn2 own2 (rows_below OL1 (show Below wa.heap.size wa wa from zb2)))
        exact z28zk1
      ·go_simp
       refine hK.out _ _ (fun _=>hHeld.below (below_alloc (Below.refl _ _) _)) (fun hN=>?_)
       clear hK K
       replace hHeld:=hN rfl
       clear hN
       refine z28zs1 ?_
       refine wpAnyT_ready (rs:=[3]) z0a z0c ?_
       refine AllReadyT.cons rfl (fun K hK=>?_) AllReadyT.nil
       go_simp
       refine hK.out _ _ (fun _=>hHeld.below (below_alloc (Below.refl _ _) _)) (fun hN=>?_)
       clear hK K
       replace hHeld:=hN rfl
       clear hN
       refine z28zs1 ?_
       refine wpAnyT_ready (rs:=[4]) z0a z0c ?_
       refine AllReadyT.cons rfl (fun K hK=>?_) AllReadyT.nil
       refine step_append_at rfl (.tmp 87) (.tmp 89) 23 rfl W.heap.size 9 iS (.string ⟨#[]⟩) 1 16 Tryd.underlying23 hiS hsS0 hsS1 hsS2 rfl z0g kv cn (rowK fK cn) z0f (rows_below NI5.out.k (show Below w7.heap.size w7 _ from zb2)) ⟨w7.heap.size+1,0,none⟩ 1 1 [.string s] z0f rfl (news_one (by simp [go_sem])) oneC_str z0o z0b (Nat.le_trans hsz (show Below w7.heap.size w7 _ from zb2).size) ?_
       intro kv1 wa own1 hg1 hn1
       obtain ⟨gk,ck,rfl⟩:=own_lit own1 z0b
       refine hK.out _ _ (fun _=>hHeld.grown hg1 hkx hko) (fun _=>?_)
       clear hK K
       have HS1:=hHeld.grown hg1 hkx hko
       have hA:=(show Below w7.heap.size w7 ((w7.drew.alloc (.cells #[.int .i64 kindt,.bool negt,.int .u64 (lm Vt 0:Nat),.int .u64 (lm Vt 1:Nat),.int .u64 (lm Vt 2:Nat),.int .u64 (lm Vt 3:Nat),.int .u64 (bitst:Nat),.string textt,.slice aLt nLt cLt,.slice aKt nKt cKt] 35)).alloc (.cells #[.string s] 9)) from zb2)
       have OL1:=(rows_below NI5.out.l hA).kept hg1 (rows_ne (rows_below NI5.out.l hA) (rows_below NI5.out.k hA) z0g)
       have XV1:VBx wa w7.heap.size kindt negt Vt bitst textt aLt nLt cLt aKt nKt cKt:=VBx.same (show VBx ((w7.drew.alloc (.cells #[.int .i64 kindt,.bool negt,.int .u64 (lm Vt 0:Nat),.int .u64 (lm Vt 1:Nat),.int .u64 (lm Vt 2:Nat),.int .u64 (lm Vt 3:Nat),.int .u64 (bitst:Nat),.string textt,.slice aLt nLt cLt,.slice aKt nKt cKt] 35)).alloc (.cells #[.string s] 9)) w7.heap.size kindt negt Vt bitst textt aLt nLt cLt aKt nKt cKt from ⟨by simp [go_sem]⟩) (hg1.block w7.heap.size (by simp <;> omega) (fun e=>by have:=(NI5.out.k.lt _ e.symm).2;omega))
       clear hHeld
       have hHeld:=HS1
       clear HS1
       refine z28zs1 ?_
       refine wpAnyT_take (i:=10) (v:=?_) rfl z0a z0a z0a z0a z0a (fun _ _ _ h=>h) (Or.inl ⟨by rfl,?_⟩) hHeld ?_
       rotate_left
       (focus (intro wq hSw;obtain ⟨_,_,_,_,_,_,_,_,_,_,_,_⟩:=hSw.all;go_simp;(try with_reducible rfl)))
       refine z28zs2 ?_
       refine wpAnyT_ready (rs:=[9]) z0a z0c ?_
       refine AllReadyT.cons rfl (fun K hK=>?_) AllReadyT.nil
       refine step_append_at rfl (.tmp 92) (.tmp 94) 33 rfl W.heap.size 35 iV (.agg #[.int .i64 0,.bool false,.int .u64 0,.int .u64 0,.int .u64 0,.int .u64 0,.int .u64 0,.string ⟨#[]⟩,.slice none 0 0,.slice none 0 0]) 10 120 Tryd.underlying33 hiV hvV0 hvV1 hvV2 rfl z0g lv cn (rowV t cn) z0f (rows_below OL1 (show Below wa.heap.size wa _ from zb2)) ⟨w7.heap.size,0,none⟩ 1 1 (VT.cells (.mk kindt negt Vt bitst textt aLt nLt cLt kidst aKt nKt cKt keyst)) z0f rfl (news_ten XV1) (cells_one _) z0o z0b (Nat.le_trans (Nat.le_trans hsz hA.size) (Nat.le_trans hg1.size (show Below wa.heap.size wa _ from zb2).size)) ?_
       intro lv1 w6 own2 hg2 hn2
       obtain ⟨gl,cl,rfl⟩:=own_lit own2 z0b
       refine hK.out _ _ (fun _=>hHeld.grown hg2 hlx hlo) (fun _=>?_)
       clear hK K
       have AP:=Lib.hid (ap2_of hA hg1 hn1 own1 (show Below wa.heap.size wa wa from zb2) hg2 hn2 own2 (rows_below OL1 (show Below wa.heap.size wa wa from zb2)))
       exact z28zk1
     | true=>
      have hnl:0 < nL':=by
       have h:=HLF.out
       unfold leftB at h
       rw [if_pos hrm] at h
       have:=of_decide_eq_false h
       omega
      obtain ⟨g0,o0,rfl⟩:∃ g0 o0,aL'=some ⟨g0,o0,none⟩:=by
       rcases HKIN.out.2.1 with h|⟨x,y,h,-⟩
       ·omega
       ·exact ⟨x,y,h⟩
      have hall:∀ q,q < nL'→(okT M n (kids' q)).msg (M zk)=true:=by
       have h1:=HMO.out
       have h2:(okT M n (.mk kind' neg' V' bits' text' (some ⟨g0,o0,none⟩) nL' cL' kids' aK' nK' cK' keys')).all ty=true:=by
        unfold memO at h1
        split at h1
        ·exact (Bool.and_eq_true _ _ ▸ h1).2
        ·split at h1
         ·exact (Bool.and_eq_true _ _ ▸ h1).2
         ·rename_i a1 a2
          rw [Bool.not_eq_true] at a1 a2
          dsimp only at a1 a2
          rw [a1,a2] at hrm
          cases hrm
       rw [okT_all,Bool.not_eq_true',any_off] at h2
       intro q hq
       have h3:=h2 q hq
       rw [Bool.not_eq_false'] at h3
       have h4:=one_msg HNS.out (s:=ty) (by rw [HZ.out];omega) (kids' q)
       rw [HZ.out] at h4
       exact h4.symm.trans h3
      have hrk:=HR.out.2.2 j hjn
      have hlk:=HLG.out.2.2 j hjn
      rw [HKID.out] at hrk hlk
      have HRK:=Lib.hid (right_parts hrk)
      have HLK:=Lib.hid (long_parts.1 hlk)
      have hnl2:=HLK.out.1.1
      have C5:=Lib.hid fun (q:Nat) (hq:q < nL') wx (hx:Below w.heap.size w wx) (hin:(kids' q).In wx)=>HK3.out j hjn q (by rw [HKID.out];exact hq) zk hzn wx hx (by rw [HKID.out];exact hin) (by rw [HKID.out];exact HRK.out.2.2 q hq) (by rw [HKID.out];exact HLK.out.2.2 q hq) (by rw [HKID.out];exact hall q hq)
      rw [HKID.out,HMZ.out] at C5
      dsimp only [VT.sub] at C5
      have hin5:=VT.In.below hB5 _ HKIN.out
      have C6:=Lib.hid (CloneV_any g0 o0 nL' cL' kids' w5 z0b hin5.2.1 hin5.2.2.1)
      clear hall hrk hlk
      go_upto_region 9 with fail
      go_cut [52] (fun s52 wx=>s52=.bool true∧w5=wx)
      case first=>
       cases re with
       | true=>
        repeat any_goals (first|go_skip|go_guarded|go_step|go_upon|(simp only [];done))
        go_meet
        exact ⟨rfl,rfl⟩
       | false=>
        obtain rfl:ma=true:=by simpa using hrm
        repeat any_goals (first|go_skip|go_guarded|go_step|go_upon|(simp only [];done))
        go_meet
        exact ⟨rfl,rfl⟩
      case rest=>
       obtain ⟨rfl,h2⟩:=hcut
       subst h2
       obtain ⟨_,_,_,_,_,_,_,_,_,_⟩:=X5.out.all
       go_upto_region 11 with (go_at_call 42;with_reducible refine (C6.out).mono ?_;rintro e w6 ⟨g,c2,rfl,hb6,own6⟩;have X6:=Lib.hid (X5.out.below hb6);obtain ⟨_,_,_,_,_,_,_,_,_,_⟩:=X6.out.all;have hf6:∀ j,w6.frozen? ⟨Bx,j,none⟩=false:=(fun j=>(hb6.frozen (p:=⟨Bx,j,none⟩) Z5.out.2).trans (Z5.out.1 j));have hl6:=Nat.lt_of_lt_of_le Z5.out.2 hb6.size)
       have hs7:w6.heap.size≤((w6.setCell ⟨Bx,8,none⟩ (.slice (some ⟨g,0,none⟩) nL' c2))).heap.size:=by simp
       have hb7:∀ b,b≠Bx→((w6.setCell ⟨Bx,8,none⟩ (.slice (some ⟨g,0,none⟩) nL' c2))).heap[b]? = w6.heap[b]? := fun b hb=>block_setCell hb
       have X7:=Lib.hid (show VBx (w6.setCell ⟨Bx,8,none⟩ (.slice (some ⟨g,0,none⟩) nL' c2)) Bx kind' neg' V' bits' text' (some ⟨g,0,none⟩) nL' c2 aK' nK' cK' from ⟨by simp [go_sem, *]⟩)
       have hl7:Bx < ((w6.setCell ⟨Bx,8,none⟩ (.slice (some ⟨g,0,none⟩) nL' c2))).heap.size:=by simpa using hl6
       obtain ⟨r6,k1,k2,hgw⟩:=rowX_of own6 fun i hi=>cells_len (hin5.2.2.1 i hi)
       have hgx:g≠Bx:=by have:=Z5.out.2;omega
       have R7:=Lib.hid (r6.same (hb7 g hgx))
       have hB6:=below_trans hB5 hb6
       have hB7:Below wr.heap.size wr (w6.setCell ⟨Bx,8,none⟩ (.slice (some ⟨g,0,none⟩) nL' c2)):=zb2
       have hgv:wr.heap.size≤g:=Nat.le_trans hB5.size hgw
       generalize (w6.setCell ⟨Bx,8,none⟩ (.slice (some ⟨g,0,none⟩) nL' c2))=w7 at *
       clear hB5 hB6 hb6 own6 X6 hf6 hl6 hb7 hs7 P5 X5 F5 r6 hin5 C6
       obtain ⟨wv,rfl⟩:∃ x,x=wr:=⟨wr,rfl⟩
       obtain ⟨_,_,_,_,_,_,_,_,_,_⟩:=X7.out.all
       repeat any_goals (first|go_skip|go_guarded|go_step|go_upon|(simp only [];done))
       go_loopw [60] (fun i wq=>∃ (q:Nat) (tq:Nat→VT),q≤nL'∧i=.int .i64 q∧NrQ wv w7 wq g nL' q kids' (fun i=>(nrm2 M n (kids' i)).msg mz) tq) (fun i _=>nL' - (intOf i).toNat)
       case atStart=>exact ⟨0,default,Nat.zero_le _,rfl,NrQ.start R7.out⟩
       case round=>
        obtain ⟨q,tq,hq,rfl,hI⟩:=hrel
        have QI:=Lib.hid hI
        have hBq:Below wv.heap.size wv wr:=But.old hB7 hI.b hgv
        have hWq:=below_trans hWr hBq
        have Xq:=Lib.hid (X7.out.same (hI.b.block Bx hl7 (Ne.symm hgx) (Ne.symm hgx)))
        obtain ⟨_,_,_,_,_,_,_,_,_,_⟩:=Xq.out.all
        clear hI
        by_cases hqn:q < nL'
        ·have hkq:=VT.In.below hBq _ (HKIN.out.2.2.1 q hqn)
         obtain ⟨kindq,negq,Vq,bitsq,textq,aLq,nLq,cLq,kidsq,aKq,nKq,cKq,keysq,ekq⟩:=hkq.lit
         have hcq:∀ j,j < 10→wr.cell? ⟨g,q * 10+j,none⟩=(VT.cells (.mk kindq negq Vq bitsq textq aLq nLq cLq kidsq aKq nKq cKq keysq))[j]? := fun j hj=>by
          have:=QI.out.r.c q hqn j hj
          simp only [Nat.lt_irrefl,if_false] at this
          rwa [ekq] at this
         have KQ:=Lib.hid (show KBx wr g (q * 10) kindq negq Vq bitsq textq aLq nLq cLq aKq nKq cKq from ⟨⟨hcq 0 z0b,hcq 1 z0b,hcq 2 z0b,hcq 3 z0b,hcq 4 z0b,hcq 5 z0b,hcq 6 z0b,hcq 7 z0b,hcq 8 z0b,hcq 9 z0b⟩⟩)
         have EKQ:=Lib.hid ekq
         have HKQ:=Lib.hid (show VT.In wr (.mk kindq negq Vq bitsq textq aLq nLq cLq kidsq aKq nKq cKq keysq) from ekq ▸ hkq)
         have C7:=Lib.hid fun wx (hx:Below w.heap.size w wx)=>C5.out q hqn wx hx
         rw [ekq] at C7
         unfold PM.agg VT.agg VT.cells at C7
         have p1:(q:Int) < (nL':Int):=by omega
         have p2:(0:Int)≤(q:Int):=by omega
         have p5:(q:Int).toNat=q:=rfl
         have hgl:=QI.out.r.l
         clear ekq hkq hcq
         obtain ⟨_,_,_,_,_,_,_,_,_,_⟩:=KQ.out.all
         go_upto_region 14 with fail
         have Y8:=Lib.hid (vbx_new wr 35 kindq negq Vq bitsq textq aLq nLq cLq aKq nKq cKq)
         have hV8:=below_alloc (Below.refl wr.heap.size wr) (.cells #[.int .i64 kindq,.bool negq,.int .u64 (lm Vq 0:Nat),.int .u64 (lm Vq 1:Nat),.int .u64 (lm Vq 2:Nat),.int .u64 (lm Vq 3:Nat),.int .u64 (bitsq:Nat),.string textq,.slice aLq nLq cLq,.slice aKq nKq cKq] 35)
         generalize wr.alloc (.cells #[.int .i64 kindq,.bool negq,.int .u64 (lm Vq 0:Nat),.int .u64 (lm Vq 1:Nat),.int .u64 (lm Vq 2:Nat),.int .u64 (lm Vq 3:Nat),.int .u64 (bitsq:Nat),.string textq,.slice aLq nLq cLq,.slice aKq nKq cKq] 35)=w8 at *
         obtain ⟨By,hBy⟩:∃ B,B=wr.heap.size:=⟨_,rfl⟩
         rw [← hBy] at Y8 ⊢
         clear hBy
         have hB8:=below_trans hBq hV8
         have hW8:=below_trans hWr hB8
         have X8:=Lib.hid (Xq.out.below hV8)
         obtain ⟨bM,oM,eM,-,hM8,-⟩:=m_lit HL.out hzn hW8
         injection eM with eM
         injection eM with eM1 eM2
         subst eM1 eM2
         rw [HMZ.out] at hM8
         have hS0:NrY w8.drew Bx By b (off+zk * 4) (some ⟨g,0,none⟩) nL' c2 mz kindq negq Vq bitsq textq aLq nLq cLq aKq nKq cKq:=NrY.below ⟨X8.out.c.2.2.2.2.2.2.2.2.1,hM8,Y8.out⟩ (Below.refl _ _).drew
         refine wp_region_late (fun w'=>NrY w' Bx By b (off+zk * 4) (some ⟨g,0,none⟩) nL' c2 mz kindq negq Vq bitsq textq aLq nLq cLq aKq nKq cKq) (fun i=>decide (11≤i)) z0a hS0 (fun hHeld=>?_)
         clear hS0
         refine wpAnyT_take (i:=0) (v:=?_) rfl z0a z0a z0a z0a z0a (fun _ _ _ h=>h) (Or.inl ⟨by rfl,?_⟩) hHeld ?_
         rotate_left
         (focus (intro wq hSw;obtain ⟨_,_,_,_,_,_,_,_,_,_,_,_,_,_,_⟩:=hSw.all;go_simp;(try with_reducible rfl)))
         refine z28zs3 ?_
         refine wpAnyT_take (i:=1) (v:=?_) rfl z0a z0a z0a z0a z0a (fun _ _ _ h=>h) (Or.inl ⟨by rfl,?_⟩) hHeld ?_
         rotate_left
         (focus (intro wq hSw;obtain ⟨_,_,_,_,_,_,_,_,_,_,_,_,_,_,_⟩:=hSw.all;go_simp;(try with_reducible rfl)))
         refine z28zs2 ?_
         refine wpAnyT_take (i:=2) (v:=?_) rfl z0a z0a z0a z0a z0a (fun _ _ _ h=>h) (Or.inl ⟨by rfl,?_⟩) hHeld ?_
         rotate_left
         (focus (intro wq hSw;obtain ⟨_,_,_,_,_,_,_,_,_,_,_,_,_,_,_⟩:=hSw.all;go_simp;(try with_reducible rfl)))
         refine z28zs2 ?_
         refine wpAnyT_take (i:=3) (v:=?_) rfl z0a z0a z0a z0a z0a (fun _ _ _ h=>h) (Or.inl ⟨by rfl,?_⟩) hHeld ?_
         rotate_left
         (focus (intro wq hSw;obtain ⟨_,_,_,_,_,_,_,_,_,_,_,_,_,_,_⟩:=hSw.all;go_simp;(try with_reducible rfl)))
         refine z28zs2 ?_
         refine wpAnyT_take (i:=4) (v:=?_) rfl z0a z0a z0a z0a z0a (fun _ _ _ h=>h) (Or.inl ⟨by rfl,?_⟩) hHeld ?_
         rotate_left
         (focus (intro wq hSw;obtain ⟨_,_,_,_,_,_,_,_,_,_,_,_,_,_,_⟩:=hSw.all;go_simp;(try with_reducible rfl)))
         refine z28zs2 ?_
         refine wpAnyT_take (i:=5) (v:=?_) rfl z0a z0a z0a z0a z0a (fun _ _ _ h=>h) (Or.inl ⟨by rfl,?_⟩) hHeld ?_
         rotate_left
         (focus (intro wq hSw;obtain ⟨_,_,_,_,_,_,_,_,_,_,_,_,_,_,_⟩:=hSw.all;go_simp;(try with_reducible rfl)))
         refine z28zs2 ?_
         refine wpAnyT_take (i:=6) (v:=?_) rfl z0a z0a z0a z0a z0a (fun _ _ _ h=>h) (Or.inl ⟨by rfl,?_⟩) hHeld ?_
         rotate_left
         (focus (intro wq hSw;obtain ⟨_,_,_,_,_,_,_,_,_,_,_,_,_,_,_⟩:=hSw.all;go_simp;(try with_reducible rfl)))
         refine z28zs2 ?_
         refine wpAnyT_take (i:=7) (v:=?_) rfl z0a z0a z0a z0a z0a (fun _ _ _ h=>h) (Or.inl ⟨by rfl,?_⟩) hHeld ?_
         rotate_left
         (focus (intro wq hSw;obtain ⟨_,_,_,_,_,_,_,_,_,_,_,_,_,_,_⟩:=hSw.all;go_simp;(try with_reducible rfl)))
         refine z28zs2 ?_
         refine wpAnyT_take (i:=8) (v:=?_) rfl z0a z0a z0a z0a z0a (fun _ _ _ h=>h) (Or.inl ⟨by rfl,?_⟩) hHeld ?_
         rotate_left
         (focus (intro wq hSw;obtain ⟨_,_,_,_,_,_,_,_,_,_,_,_,_,_,_⟩:=hSw.all;go_simp;(try with_reducible rfl)))
         refine z28zs2 ?_
         refine wpAnyT_ready (rs:=[9]) z0a z0c ?_
         refine AllReadyT.cons rfl (fun K hK=>?_) AllReadyT.nil
         go_simp
         (go_at_call 22;with_reducible refine (C7.out _ (below_trans hW8 (Below.refl _ _).drew) (VT.In.below (below_trans hV8 (Below.refl _ _).drew) _ HKQ.out)).mono ?_;rintro e w9 ⟨tt,rfl,hNT,hb9⟩;obtain ⟨kindt,negt,Vt,bitst,textt,aLt,nLt,cLt,kidst,aKt,nKt,cKt,keyst,rfl⟩:=VT.In.lit hNT.i;simp only)
         have hd9:=below_trans (Below.refl w8.heap.size w8).drew hb9
         refine hK.out _ _ (fun _=>hHeld.below hb9) (fun hN=>?_)
         clear hK K
         replace hHeld:=hN rfl
         clear hN
         refine wpAnyT_take (i:=10) (v:=?_) rfl z0a z0a z0a z0a z0a (fun _ _ _ h=>h) (Or.inl ⟨by rfl,?_⟩) hHeld ?_
         rotate_left
         (focus (intro wq hSw;obtain ⟨_,_,_,_,_,_,_,_,_,_,_,_,_,_,_⟩:=hSw.all;go_simp;(try with_reducible rfl)))
         refine z28zs2 ?_
         have hBq9:=below_trans hV8 hd9
         have R9:=QI.out.r.below hBq9
         have hf9:=R9.f
         have hl9:=R9.l
         have K9:=Lib.hid (KQ.out.below hBq9)
         obtain ⟨_,_,_,_,_,_,_,_,_,_⟩:=K9.out.all
         refine wpAnyT_ready (rs:=[11]) z0a z0c ?_
         refine AllReadyT.cons rfl (fun K hK=>?_) AllReadyT.nil
         go_simp
         refine hK.out _ _ (fun h=>z0s) (fun _=>?_)
         clear hK K
         refine z28zs1 ?_
         refine wpAnyT_done z0a ?_ _
         refine NoPanic.normal ?_
         have EQ:=EKQ.out
         obtain ⟨tq',hq'⟩:=QI.out.push hqn (cells_len (HKIN.out.2.2.1 q hqn)) hBq9 (⟨hNT.i,fun Q h0 h1=>hNT.q Q (by rw [EQ] at h0;exact h0) (fun b (hb:w8.heap.size≤b)=>h1 b (Nat.le_trans hB8.size hb)),by
          show Sim _ ((nrm2 M n (kids' q)).msg mz)
          rw [EQ]
          exact hNT.s⟩) (hNT.q (fun b=>b≠g) (by
          have h:=(VT.In.blk (HKIN.out.2.2.1 q hqn)).mono (R:=fun b=>b≠g) (fun b (hb:b < wv.heap.size)=>by omega)
          rw [EQ] at h
          exact h) (fun b (hb:w8.heap.size≤b)=>by have:=hV8.size;omega))
         have QJ:=Lib.hid hq'
         clear hq'
         generalize ((((((((((w9.setCell ⟨g,q * 10,none⟩ (.int .i64 kindt)).setCell ⟨g,q * 10+1,none⟩ (.bool negt)).setCell ⟨g,q * 10+2,none⟩ (.int .u64 (lm Vt 0:Nat))).setCell ⟨g,q * 10+3,none⟩ (.int .u64 (lm Vt 1:Nat))).setCell ⟨g,q * 10+4,none⟩ (.int .u64 (lm Vt 2:Nat))).setCell ⟨g,q * 10+5,none⟩ (.int .u64 (lm Vt 3:Nat))).setCell ⟨g,q * 10+6,none⟩ (.int .u64 (bitst:Nat))).setCell ⟨g,q * 10+7,none⟩ (.string textt)).setCell ⟨g,q * 10+8,none⟩ (.slice aLt nLt cLt)).setCell ⟨g,q * 10+9,none⟩ (.slice aKt nKt cKt))=w10 at *
         repeat any_goals (first|go_skip|go_guarded|go_step|go_upon|(simp only [];done))
         go_roundw
         case rel=>exact ⟨q+1,tq',by omega,rfl,QJ.out⟩
         case measure=>simp [intOf];omega
        ·have hq':q=nL':=by omega
         have p1:¬ (q:Int) < (nL':Int):=by omega
         have NT:=Lib.hid (show NrT wv wr (kids j) (fT (cntN p j)) (.mk kind' neg' V' bits' text' (some ⟨g,0,none⟩) nL' c2 tq aK' nK' cK' keys') from by
          have hb:=VT.In.below hBq _ HKIN.out
          have hI:=QI.out
          rw [hq'] at hI
          refine ⟨⟨⟨hb.1.k0,hb.1.k1,hb.1.v,hb.1.b,hb.1.t,k1,k2,hb.1.n,hb.1.nc⟩,.inr ⟨g,0,rfl,hI.r.l,fun i hi jj hjj=>?_⟩,fun i hi=>(hI.t i hi).1.i,hb.2.2.2⟩,fun Q h0 h1=>?_,?_⟩
          ·rw [Nat.zero_add,hI.r.c i hi jj hjj]
           exact congrArg (fun T=>(VT.cells T)[jj]?) (if_pos hi)
          ·rw [HKID.out] at h0
           refine ⟨.inr fun ad e=>?_,h0.2.1,fun i hi=>(hI.t i hi).1.q Q (h0.2.2 i hi) h1⟩
           injection e with e
           subst e
           exact h1 g hgv
          ·rw [(HFT.out j hjn HPJ.out).1,HS.out,HF.out,HNX.out,if_pos hrm,HKID.out,nrm_all]
           exact sim_mk.2 ⟨⟨rfl,rfl,rfl,rfl,rfl,rfl,rfl⟩,fun _ _=>rfl,fun i hi=>(hI.t i hi).1.s⟩)
         have hB5:=hBq
         clear hBq
         go_upto_region 18 with fail
         have NI5:=Lib.hid (NI.out.below hB5)
         have hsz:=NI5.out.b.size
         have hkx:some Bx≠kv.ownBlock:=fun e=>by have:=(NI.out.k.lt Bx e.symm).2;omega
         have hlx:some Bx≠lv.ownBlock:=fun e=>by have:=(NI.out.l.lt Bx e.symm).2;omega
         have hko:some Bo≠kv.ownBlock:=fun e=>by have:=(NI.out.k.lt Bo e.symm).1;have:=NW.out.l.2.2.2.2.1;omega
         have hlo:some Bo≠lv.ownBlock:=fun e=>by have:=(NI.out.l.lt Bo e.symm).1;have:=NW.out.l.2.2.2.2.1;omega
         have hcn:=cnt_le (p:=p) j
         obtain ⟨cn,hcn2⟩:∃ x,cntN p j=x:=⟨_,rfl⟩
         rw [hcn2] at NI5 hcn
         have hS0:NrS wr.drew Bx Bo kind' neg' V' bits' text' (some ⟨g,0,none⟩) nL' c2 aK' nK' cK' lv kv:=NrS.below ⟨Xq.out,NI5.out.o.c.all.2.2.2.2.2.2.2.2.1,NI5.out.o.c.all.2.2.2.2.2.2.2.2.2⟩ (Below.refl _ _).drew
         refine wp_region_late (fun w'=>NrS w' Bx Bo kind' neg' V' bits' text' (some ⟨g,0,none⟩) nL' c2 aK' nK' cK' lv kv) (fun i=>decide (11≤i)) z0a hS0 (fun hHeld=>?_)
         clear hS0
         refine wpAnyT_take (i:=0) (v:=?_) rfl z0a z0a z0a z0a z0a (fun _ _ _ h=>h) (Or.inl ⟨by rfl,?_⟩) hHeld ?_
         rotate_left
         (focus (intro wq hSw;obtain ⟨_,_,_,_,_,_,_,_,_,_,_,_⟩:=hSw.all;go_simp;(try with_reducible rfl)))
         refine z28zs3 ?_
         refine wpAnyT_take (i:=1) (v:=?_) rfl z0a z0a z0a z0a z0a (fun _ _ _ h=>h) (Or.inl ⟨by rfl,?_⟩) hHeld ?_
         rotate_left
         (focus (intro wq hSw;obtain ⟨_,_,_,_,_,_,_,_,_,_,_,_⟩:=hSw.all;go_simp;(try with_reducible rfl)))
         refine z28zs2 ?_
         refine wpAnyT_take (i:=2) (v:=?_) rfl z0a z0a z0a z0a z0a (fun _ _ _ h=>h) (Or.inl ⟨by rfl,?_⟩) hHeld ?_
         rotate_left
         (focus (intro wq hSw;obtain ⟨_,_,_,_,_,_,_,_,_,_,_,_⟩:=hSw.all;go_simp;(try with_reducible rfl)))
         refine z28zs2 ?_
         refine wpAnyT_take (i:=5) (v:=?_) rfl z0a z0a z0a z0a z0a (fun _ _ _ h=>h) (Or.inl ⟨by rfl,?_⟩) hHeld ?_
         rotate_left
         (focus (intro wq hSw;obtain ⟨_,_,_,_,_,_,_,_,_,_,_,_⟩:=hSw.all;go_simp;(try with_reducible rfl)))
         refine z28zs2 ?_
         refine wpAnyT_take (i:=6) (v:=?_) rfl z0a z0a z0a z0a z0a (fun _ _ _ h=>h) (Or.inl ⟨by rfl,?_⟩) hHeld ?_
         rotate_left
         (focus (intro wq hSw;obtain ⟨_,_,_,_,_,_,_,_,_,_,_,_⟩:=hSw.all;go_simp;(try with_reducible rfl)))
         refine z28zs2 ?_
         refine wpAnyT_take (i:=7) (v:=?_) rfl z0a z0a z0a z0a z0a (fun _ _ _ h=>h) (Or.inl ⟨by rfl,?_⟩) hHeld ?_
         rotate_left
         (focus (intro wq hSw;obtain ⟨_,_,_,_,_,_,_,_,_,_,_,_⟩:=hSw.all;go_simp;(try with_reducible rfl)))
         refine z28zs2 ?_
         refine wpAnyT_ready (rs:=[3,8]) z0a z0c ?_
         refine AllReadyT.cons rfl (fun K hK=>?_) (AllReadyT.cons rfl (fun K hK=>?_) AllReadyT.nil)
         ·go_simp
          refine hK.out _ _ (fun _=>hHeld.below (below_alloc (Below.refl _ _) _)) (fun hN=>?_)
          clear hK K
          replace hHeld:=hN rfl
          clear hN
          refine z28zs1 ?_
          refine wpAnyT_ready (rs:=[4,8]) z0a z0c ?_
          refine AllReadyT.cons rfl (fun K hK=>?_) (AllReadyT.cons rfl (fun K hK=>?_) AllReadyT.nil)
          ·refine step_append_at rfl (.tmp 87) (.tmp 89) 23 rfl W.heap.size 9 iS (.string ⟨#[]⟩) 1 16 Tryd.underlying23 hiS hsS0 hsS1 hsS2 rfl z0g kv cn (rowK fK cn) z0f (rows_below NI5.out.k (show Below wr.heap.size wr _ from zb2)) ⟨wr.heap.size,0,none⟩ 1 1 [.string s] z0f rfl (news_one (by simp [go_sem])) oneC_str z0o z0b (Nat.le_trans hsz (show Below wr.heap.size wr _ from zb2).size) ?_
           intro kv1 wa own1 hg1 hn1
           obtain ⟨gk,ck,rfl⟩:=own_lit own1 z0b
           refine hK.out _ _ (fun _=>hHeld.grown hg1 hkx hko) (fun _=>?_)
           clear hK K
           have HS1:=hHeld.grown hg1 hkx hko
           have hA:=(show Below wr.heap.size wr (wr.drew.alloc (.cells #[.string s] 9)) from zb2)
           have OL1:=(rows_below NI5.out.l hA).kept hg1 (rows_ne (rows_below NI5.out.l hA) (rows_below NI5.out.k hA) z0g)
           clear hHeld
           have hHeld:=HS1
           clear HS1
           refine z28zs1 ?_
           refine wpAnyT_take (i:=10) (v:=?_) rfl z0a z0a z0a z0a z0a (fun _ _ _ h=>h) (Or.inl ⟨by rfl,?_⟩) hHeld ?_
           rotate_left
           (focus (intro wq hSw;obtain ⟨_,_,_,_,_,_,_,_,_,_,_,_⟩:=hSw.all;go_simp;(try with_reducible rfl)))
           refine z28zs2 ?_
           refine wpAnyT_ready (rs:=[8]) z0a z0c ?_
           refine AllReadyT.cons rfl (fun K hK=>?_) AllReadyT.nil
           go_simp
           refine hK.out _ _ (fun _=>hHeld.below (below_alloc (Below.refl _ _) _)) (fun hN=>?_)
           clear hK K
           replace hHeld:=hN rfl
           clear hN
           refine z28zs1 ?_
           refine wpAnyT_ready (rs:=[9]) z0a z0c ?_
           refine AllReadyT.cons rfl (fun K hK=>?_) AllReadyT.nil
           refine step_append_at rfl (.tmp 92) (.tmp 94) 33 rfl W.heap.size 35 iV (.agg #[.int .i64 0,.bool false,.int .u64 0,.int .u64 0,.int .u64 0,.int .u64 0,.int .u64 0,.string ⟨#[]⟩,.slice none 0 0,.slice none 0 0]) 10 120 Tryd.underlying33 hiV hvV0 hvV1 hvV2 rfl z0g lv cn (rowV t cn) z0f (rows_below OL1 (show Below wa.heap.size wa _ from zb2)) ⟨wa.heap.size,0,none⟩ 1 1 (VT.cells (.mk kind' neg' V' bits' text' (some ⟨g,0,none⟩) nL' c2 tq aK' nK' cK' keys')) z0f rfl (news_ten (show VBx (wa.alloc (.cells #[.int .i64 kind',.bool neg',.int .u64 (lm V' 0:Nat),.int .u64 (lm V' 1:Nat),.int .u64 (lm V' 2:Nat),.int .u64 (lm V' 3:Nat),.int .u64 (bits':Nat),.string text',.slice (some ⟨g,0,none⟩) nL' c2,.slice aK' nK' cK'] 35)) wa.heap.size kind' neg' V' bits' text' (some ⟨g,0,none⟩) nL' c2 aK' nK' cK' from ⟨by simp [go_sem]⟩)) (cells_one _) z0o z0b (Nat.le_trans (Nat.le_trans hsz hA.size) (Nat.le_trans hg1.size (show Below wa.heap.size wa _ from zb2).size)) ?_
           intro lv1 w6 own2 hg2 hn2
           obtain ⟨gl,cl,rfl⟩:=own_lit own2 z0b
           refine hK.out _ _ (fun _=>hHeld.grown hg2 hlx hlo) (fun _=>?_)
           clear hK K
           have AP:=Lib.hid (ap2_of hA hg1 hn1 own1 (show Below wa.heap.size wa (wa.alloc (.cells #[.int .i64 kind',.bool neg',.int .u64 (lm V' 0:Nat),.int .u64 (lm V' 1:Nat),.int .u64 (lm V' 2:Nat),.int .u64 (lm V' 3:Nat),.int .u64 (bits':Nat),.string text',.slice (some ⟨g,0,none⟩) nL' c2,.slice aK' nK' cK'] 35)) from zb2) hg2 hn2 own2 (rows_below OL1 (show Below wa.heap.size wa (wa.alloc (.cells #[.int .i64 kind',.bool neg',.int .u64 (lm V' 0:Nat),.int .u64 (lm V' 1:Nat),.int .u64 (lm V' 2:Nat),.int .u64 (lm V' 3:Nat),.int .u64 (bits':Nat),.string text',.slice (some ⟨g,0,none⟩) nL' c2,.slice aK' nK' cK'] 35)) from zb2)))
           exact z28zk1
          ·go_simp
           refine hK.out _ _ (fun _=>hHeld.below (below_alloc (Below.refl _ _) _)) (fun hN=>?_)
           clear hK K
           replace hHeld:=hN rfl
           clear hN
           refine z28zs1 ?_
           refine wpAnyT_ready (rs:=[4]) z0a z0c ?_
           refine AllReadyT.cons rfl (fun K hK=>?_) AllReadyT.nil
           refine step_append_at rfl (.tmp 87) (.tmp 89) 23 rfl W.heap.size 9 iS (.string ⟨#[]⟩) 1 16 Tryd.underlying23 hiS hsS0 hsS1 hsS2 rfl z0g kv cn (rowK fK cn) z0f (rows_below NI5.out.k (show Below wr.heap.size wr _ from zb2)) ⟨wr.heap.size,0,none⟩ 1 1 [.string s] z0f rfl (news_one (by simp [go_sem])) oneC_str z0o z0b (Nat.le_trans hsz (show Below wr.heap.size wr _ from zb2).size) ?_
           intro kv1 wa own1 hg1 hn1
           obtain ⟨gk,ck,rfl⟩:=own_lit own1 z0b
           refine hK.out _ _ (fun _=>hHeld.grown hg1 hkx hko) (fun _=>?_)
           clear hK K
           have HS1:=hHeld.grown hg1 hkx hko
           have hA:=(show Below wr.heap.size wr ((wr.drew.alloc (.cells #[.string s] 9)).alloc (.cells #[.int .i64 kind',.bool neg',.int .u64 (lm V' 0:Nat),.int .u64 (lm V' 1:Nat),.int .u64 (lm V' 2:Nat),.int .u64 (lm V' 3:Nat),.int .u64 (bits':Nat),.string text',.slice (some ⟨g,0,none⟩) nL' c2,.slice aK' nK' cK'] 35)) from zb2)
           have OL1:=(rows_below NI5.out.l hA).kept hg1 (rows_ne (rows_below NI5.out.l hA) (rows_below NI5.out.k hA) z0g)
           have XV1:VBx wa (wr.heap.size+1) kind' neg' V' bits' text' (some ⟨g,0,none⟩) nL' c2 aK' nK' cK':=VBx.same (show VBx ((wr.drew.alloc (.cells #[.string s] 9)).alloc (.cells #[.int .i64 kind',.bool neg',.int .u64 (lm V' 0:Nat),.int .u64 (lm V' 1:Nat),.int .u64 (lm V' 2:Nat),.int .u64 (lm V' 3:Nat),.int .u64 (bits':Nat),.string text',.slice (some ⟨g,0,none⟩) nL' c2,.slice aK' nK' cK'] 35)) (wr.heap.size+1) kind' neg' V' bits' text' (some ⟨g,0,none⟩) nL' c2 aK' nK' cK' from ⟨by simp [go_sem]⟩) (hg1.block (wr.heap.size+1) (by simp <;> omega) (fun e=>by have:=(NI5.out.k.lt _ e.symm).2;omega))
           clear hHeld
           have hHeld:=HS1
           clear HS1
           refine z28zs1 ?_
           refine wpAnyT_take (i:=10) (v:=?_) rfl z0a z0a z0a z0a z0a (fun _ _ _ h=>h) (Or.inl ⟨by rfl,?_⟩) hHeld ?_
           rotate_left
           (focus (intro wq hSw;obtain ⟨_,_,_,_,_,_,_,_,_,_,_,_⟩:=hSw.all;go_simp;(try with_reducible rfl)))
           refine z28zs2 ?_
           refine wpAnyT_ready (rs:=[9]) z0a z0c ?_
           refine AllReadyT.cons rfl (fun K hK=>?_) AllReadyT.nil
           refine step_append_at rfl (.tmp 92) (.tmp 94) 33 rfl W.heap.size 35 iV (.agg #[.int .i64 0,.bool false,.int .u64 0,.int .u64 0,.int .u64 0,.int .u64 0,.int .u64 0,.string ⟨#[]⟩,.slice none 0 0,.slice none 0 0]) 10 120 Tryd.underlying33 hiV hvV0 hvV1 hvV2 rfl z0g lv cn (rowV t cn) z0f (rows_below OL1 (show Below wa.heap.size wa _ from zb2)) ⟨wr.heap.size+1,0,none⟩ 1 1 (VT.cells (.mk kind' neg' V' bits' text' (some ⟨g,0,none⟩) nL' c2 tq aK' nK' cK' keys')) z0f rfl (news_ten XV1) (cells_one _) z0o z0b (Nat.le_trans (Nat.le_trans hsz hA.size) (Nat.le_trans hg1.size (show Below wa.heap.size wa _ from zb2).size)) ?_
           intro lv1 w6 own2 hg2 hn2
           obtain ⟨gl,cl,rfl⟩:=own_lit own2 z0b
           refine hK.out _ _ (fun _=>hHeld.grown hg2 hlx hlo) (fun _=>?_)
           clear hK K
           have AP:=Lib.hid (ap2_of hA hg1 hn1 own1 (show Below wa.heap.size wa wa from zb2) hg2 hn2 own2 (rows_below OL1 (show Below wa.heap.size wa wa from zb2)))
           exact z28zk1
         ·go_simp
          refine hK.out _ _ (fun _=>hHeld.below (below_alloc (Below.refl _ _) _)) (fun hN=>?_)
          clear hK K
          replace hHeld:=hN rfl
          clear hN
          refine z28zs1 ?_
          refine wpAnyT_ready (rs:=[3]) z0a z0c ?_
          refine AllReadyT.cons rfl (fun K hK=>?_) AllReadyT.nil
          go_simp
          refine hK.out _ _ (fun _=>hHeld.below (below_alloc (Below.refl _ _) _)) (fun hN=>?_)
          clear hK K
          replace hHeld:=hN rfl
          clear hN
          refine z28zs1 ?_
          refine wpAnyT_ready (rs:=[4]) z0a z0c ?_
          refine AllReadyT.cons rfl (fun K hK=>?_) AllReadyT.nil
          refine step_append_at rfl (.tmp 87) (.tmp 89) 23 rfl W.heap.size 9 iS (.string ⟨#[]⟩) 1 16 Tryd.underlying23 hiS hsS0 hsS1 hsS2 rfl z0g kv cn (rowK fK cn) z0f (rows_below NI5.out.k (show Below wr.heap.size wr _ from zb2)) ⟨wr.heap.size+1,0,none⟩ 1 1 [.string s] z0f rfl (news_one (by simp [go_sem])) oneC_str z0o z0b (Nat.le_trans hsz (show Below wr.heap.size wr _ from zb2).size) ?_
          intro kv1 wa own1 hg1 hn1
          obtain ⟨gk,ck,rfl⟩:=own_lit own1 z0b
          refine hK.out _ _ (fun _=>hHeld.grown hg1 hkx hko) (fun _=>?_)
          clear hK K
          have HS1:=hHeld.grown hg1 hkx hko
          have hA:=(show Below wr.heap.size wr ((wr.drew.alloc (.cells #[.int .i64 kind',.bool neg',.int .u64 (lm V' 0:Nat),.int .u64 (lm V' 1:Nat),.int .u64 (lm V' 2:Nat),.int .u64 (lm V' 3:Nat),.int .u64 (bits':Nat),.string text',.slice (some ⟨g,0,none⟩) nL' c2,.slice aK' nK' cK'] 35)).alloc (.cells #[.string s] 9)) from zb2)
          have OL1:=(rows_below NI5.out.l hA).kept hg1 (rows_ne (rows_below NI5.out.l hA) (rows_below NI5.out.k hA) z0g)
          have XV1:VBx wa wr.heap.size kind' neg' V' bits' text' (some ⟨g,0,none⟩) nL' c2 aK' nK' cK':=VBx.same (show VBx ((wr.drew.alloc (.cells #[.int .i64 kind',.bool neg',.int .u64 (lm V' 0:Nat),.int .u64 (lm V' 1:Nat),.int .u64 (lm V' 2:Nat),.int .u64 (lm V' 3:Nat),.int .u64 (bits':Nat),.string text',.slice (some ⟨g,0,none⟩) nL' c2,.slice aK' nK' cK'] 35)).alloc (.cells #[.string s] 9)) wr.heap.size kind' neg' V' bits' text' (some ⟨g,0,none⟩) nL' c2 aK' nK' cK' from ⟨by simp [go_sem]⟩) (hg1.block wr.heap.size (by simp <;> omega) (fun e=>by have:=(NI5.out.k.lt _ e.symm).2;omega))
          clear hHeld
          have hHeld:=HS1
          clear HS1
          refine z28zs1 ?_
          refine wpAnyT_take (i:=10) (v:=?_) rfl z0a z0a z0a z0a z0a (fun _ _ _ h=>h) (Or.inl ⟨by rfl,?_⟩) hHeld ?_
          rotate_left
          (focus (intro wq hSw;obtain ⟨_,_,_,_,_,_,_,_,_,_,_,_⟩:=hSw.all;go_simp;(try with_reducible rfl)))
          refine z28zs2 ?_
          refine wpAnyT_ready (rs:=[9]) z0a z0c ?_
          refine AllReadyT.cons rfl (fun K hK=>?_) AllReadyT.nil
          refine step_append_at rfl (.tmp 92) (.tmp 94) 33 rfl W.heap.size 35 iV (.agg #[.int .i64 0,.bool false,.int .u64 0,.int .u64 0,.int .u64 0,.int .u64 0,.int .u64 0,.string ⟨#[]⟩,.slice none 0 0,.slice none 0 0]) 10 120 Tryd.underlying33 hiV hvV0 hvV1 hvV2 rfl z0g lv cn (rowV t cn) z0f (rows_below OL1 (show Below wa.heap.size wa _ from zb2)) ⟨wr.heap.size,0,none⟩ 1 1 (VT.cells (.mk kind' neg' V' bits' text' (some ⟨g,0,none⟩) nL' c2 tq aK' nK' cK' keys')) z0f rfl (news_ten XV1) (cells_one _) z0o z0b (Nat.le_trans (Nat.le_trans hsz hA.size) (Nat.le_trans hg1.size (show Below wa.heap.size wa _ from zb2).size)) ?_
          intro lv1 w6 own2 hg2 hn2
          obtain ⟨gl,cl,rfl⟩:=own_lit own2 z0b
          refine hK.out _ _ (fun _=>hHeld.grown hg2 hlx hlo) (fun _=>?_)
          clear hK K
          have AP:=Lib.hid (ap2_of hA hg1 hn1 own1 (show Below wa.heap.size wa wa from zb2) hg2 hn2 own2 (rows_below OL1 (show Below wa.heap.size wa wa from zb2)))
          exact z28zk1
  ·have hjn':j=nK:=by omega
   have i1:¬ (j:Int) < (nK:Int):=by omega
   have Rr:=Lib.hid (NW.out.r.same (NI.out.b.block Br NW.out.l.2.2.2.1 NW.out.n.2.2 NW.out.n.2.2))
   have hfr:=Rr.out.f
   have hlr:=Rr.out.lt
   rw [hjn'] at NI
   have hcn:=cnt_le (p:=p) nK
   obtain ⟨cn,hcn2⟩:∃ x,cntN p nK=x:=⟨_,rfl⟩
   rw [hcn2] at NI hcn
   have HR2:=Lib.hid (HRR.out)
   rw [hcn2] at HR2
   obtain ⟨aLo,cLo,e1,l1,l2,l3,l4⟩:=rowV_form NI.out.l fun i hi=>cells_len (NI.out.t i hi).1
   obtain ⟨aKo,cKo,e2,k1,k2,k3,k4⟩:=rowK_form NI.out.k fun i hi=>by
    have h1:=HFK.out i (by rw [hcn2];exact hi)
    rw [h1.1]
    obtain ⟨_,_,_,_,_,h2⟩:=key_lit HKY.out h1.2 (Below.refl _ _)
    exact h2
   subst e1 e2
   obtain ⟨_,_,_,_,_,_,_,_,_,_⟩:=NI.out.o.c.all
   obtain ⟨_,_,_,_,_,_,_,_,_,_⟩:=Rr.out.c.all
   have F1:=Lib.hid l3
   have F2:=Lib.hid k3
   clear l3 k3
   repeat any_goals (first|go_skip|go_guarded|go_step|go_upon|(simp only [];done))
   have hb:∀ b,b≠Br→(((((((((((wr.setCell ⟨Br,0,none⟩ (.int .i64 8)).setCell ⟨Br,1,none⟩ (.bool false)).setCell ⟨Br,2,none⟩ (.int .u64 0)).setCell ⟨Br,3,none⟩ (.int .u64 0)).setCell ⟨Br,4,none⟩ (.int .u64 0)).setCell ⟨Br,5,none⟩ (.int .u64 0)).setCell ⟨Br,6,none⟩ (.int .u64 0)).setCell ⟨Br,7,none⟩ (.string ⟨#[]⟩)).setCell ⟨Br,8,none⟩ (.slice aLo cn cLo)).setCell ⟨Br,9,none⟩ (.slice aKo cn cKo))).heap[b]? = wr.heap[b]? := fun b hb=>set10_block hb
   have hs10:wr.heap.size≤(((((((((((wr.setCell ⟨Br,0,none⟩ (.int .i64 8)).setCell ⟨Br,1,none⟩ (.bool false)).setCell ⟨Br,2,none⟩ (.int .u64 0)).setCell ⟨Br,3,none⟩ (.int .u64 0)).setCell ⟨Br,4,none⟩ (.int .u64 0)).setCell ⟨Br,5,none⟩ (.int .u64 0)).setCell ⟨Br,6,none⟩ (.int .u64 0)).setCell ⟨Br,7,none⟩ (.string ⟨#[]⟩)).setCell ⟨Br,8,none⟩ (.slice aLo cn cLo)).setCell ⟨Br,9,none⟩ (.slice aKo cn cKo))).heap.size:=by simp
   have hr0:w.heap.size≤Br:=NW.out.l.2.2.2.2.2.2
   have hr1:Br < W.heap.size:=NW.out.l.2.2.2.1
   have hin0:VT.In wr (.mk 8 false 0 0 ⟨#[]⟩ aLo cn cLo t aKo cn cKo fK):=⟨⟨by omega,by omega,by decide,by decide,Nat.zero_le _,l1,l2,k1,k2⟩,F1.out,fun i hi=>(NI.out.t i hi).1,F2.out⟩
   have hbk0:VT.Blk (fun b=>b < w.heap.size∨W.heap.size≤b) (.mk 8 false 0 0 ⟨#[]⟩ aLo cn cLo t aKo cn cKo fK):=⟨.inr fun ad e=>.inr (l4 ad e),.inr fun ad e=>.inr (k4 ad e),fun i hi=>(NI.out.t i hi).2.1.mono fun b h=>h.1⟩
   refine bodyPost_ret (v:=.agg #[.int .i64 8,.bool false,.int .u64 0,.int .u64 0,.int .u64 0,.int .u64 0,.int .u64 0,.string ⟨#[]⟩,.slice aLo cn cLo,.slice aKo cn cKo]) (by simp [results,Tryd.results22,go_sem, *]) rfl ⟨.mk 8 false 0 0 ⟨#[]⟩ aLo cn cLo t aKo cn cKo fK,by simp [lm_none],⟨hin0.kept hs10 (fun b _ h=>hb b z0b) hbk0,fun Q h0 h1=>⟨.inr fun ad e=>h1 _ (Nat.le_trans NW.out.b.size (l4 ad e)),.inr fun ad e=>h1 _ (Nat.le_trans NW.out.b.size (k4 ad e)),fun i hi=>(NI.out.t i hi).2.2.1 Q h0 h1⟩,?_⟩,zb2⟩
   rw [HR2.out]
   exact sim_mk.2 ⟨⟨rfl,rfl,rfl,rfl,rfl,rfl,rfl⟩,fun _ _=>rfl,fun i hi=>(NI.out.t i hi).2.2.2⟩
theorem pnorm_all (M:Nat→PM) (a:Option Addr) (n c:Nat) (hTy:Types M n) (hNS:NoScal M n):∀ T:VT,PNrm M a n c T∧∀ q,q < T.cnt→PNrm M a n c (T.sub q):=by
 intro T
 induction T with
 | nil=>exact ⟨fun _ _ _ _ h=>h.elim,fun _ h=>absurd h (Nat.not_lt_zero _)⟩
 | mk kind neg V bits text aL nL cL kids aK nK cK keys ih=>exact ⟨pnorm_mk M a n c hTy hNS kind neg V bits text aL nL cL kids aK nK cK keys (fun i _=>(ih i).1) (fun i _=>(ih i).2),fun q _=>(ih q).1⟩
end Go.Proofs.YtfondldmmcmloaaDoor
