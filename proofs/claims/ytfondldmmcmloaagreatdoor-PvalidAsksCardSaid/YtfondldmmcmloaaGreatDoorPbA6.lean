/- NrE. -/
import Derived.Test.YtfondldmmcmloaaGreatDoorPbA5
set_option maxRecDepth 1000000
set_option maxHeartbeats 8000000
namespace Go.Proofs.YtfondldmmcmloaaGreatDoor
open Go Go.RowKit
theorem za6zs1 {p q:Prop} (h:q) (e:q→p:=by intro hq;(try simp only [Act.put,List.setIfInBounds_toArray,List.set_cons_zero,List.set_cons_succ,List.getElem_toArray,List.getElem_cons_succ,List.getElem_cons_zero]);exact hq):p:=e h
theorem za6zs2 {p q:Prop} (h:q) (e:q→p:=by intro hq;simp only [Act.put,List.setIfInBounds_toArray,List.set_cons_zero,List.set_cons_succ,List.getElem_toArray,List.getElem_cons_succ,List.getElem_cons_zero];exact hq):p:=e h
theorem za6zk1 {p:Prop} (h:p:=by
 have O6:=NI5.out.o.same (AP.out.block Bo NI5.out.o.lt hlo hko)
 obtain ⟨_,_,_,_,_,_,_,_,_,_⟩:=O6.c.all
 have hf6:=O6.f
 have hl6:=O6.lt
 clear hHeld own1 own2 hg1 hg2 hn1 hn2 OL1 hA
 refine za6zs1 ?_
 refine wpAnyT_ready (rs:=[15]) z0a z0f ?_
 refine AllReadyT.cons rfl (fun K hK=>?_) AllReadyT.nil
 go_simp
 refine hK.out _ _ (fun h=>z0q) (fun _=>?_)
 clear hK K
 refine za6zs1 ?_
 refine wpAnyT_ready (rs:=[16]) z0a z0f ?_
 refine AllReadyT.cons rfl (fun K hK=>?_) AllReadyT.nil
 go_simp
 refine hK.out _ _ (fun h=>z0q) (fun _=>?_)
 clear hK K
 refine za6zs1 ?_
 refine wpAnyT_ready (rs:=[17]) z0a z0f ?_
 refine AllReadyT.cons rfl (fun K hK=>?_) AllReadyT.nil
 go_simp
 refine hK.out _ _ (fun h=>z0q) (fun _=>?_)
 clear hK K
 refine za6zs1 ?_
 refine wpAnyT_done z0a ?_ _
 refine NoPanic.normal ?_
 obtain ⟨t7,ht7⟩:=NI5.out.push NW.out.l.2.2.2.2.2.1 NW.out.l.2.2.2.2.1 AP.out z0o NT.out.i (NT.out.off (HKI.out j hjn) NI.out NW.out.l.2.2.2.2.2.1 NW.out.l.2.2.2.2.1 NW.out.b.size) (fun Q h0 h1=>NT.out.q Q (h0.2.2 j hjn) fun b hb=>h1 b (Nat.le_trans hWr.size hb)) z0t
 have NI7:=Lib.hid ht7
 clear ht7 AP O6 hf6 hl6
 generalize (w6.setCell ⟨Bo,9,none⟩ (.slice (some ⟨gk,0,none⟩) (cn+1) ck)).setCell ⟨Bo,8,none⟩ (.slice (some ⟨gl,0,none⟩) (cn+1) cl)=w7 at *
 repeat any_goals (first|go_skip|go_guarded|go_step|go_upon|(simp only [];done))
 go_roundw
 case rel=>exact ⟨j+1,_,_,t7,by omega,rfl,by rw [cnt_yes HPJ.out,hcn2];exact NI7.out⟩
 case measure=>simp [intOf];omega):p:=h
end Go.Proofs.YtfondldmmcmloaaGreatDoor
namespace Go.Proofs.YtfondldmmcmloaaGreatDoor
open Go.RowKit
theorem rnorm_mk (M:Nat→PM) (a:Option Addr) (n c:Nat) (hTy:Types M n) (hNS:NoScal M n) (hNB:NoBoth M n) (kind:Int) (neg:Bool) (V bits:Nat) (text:ByteArray) (aL:Option Addr) (nL cL:Nat) (kids:Nat→VT) (aK:Option Addr) (nK cK:Nat) (keys:Nat→ByteArray) (hK:∀ i,i < nL→RNmd M a n c (kids i)) (hKK:∀ i,i < nL→∀ q,q < (kids i).cnt→RNmd M a n c ((kids i).sub q)):RNrm M a n c (.mk kind neg V bits text aL nL cL kids aK nK cK keys):=by
 intro k w hk hL hin hr hlg hmsg
 have HR:=Lib.hid (right_parts hr)
 have HLG:=Lib.hid (long_parts.1 hlg)
 have HIN:=Lib.hid hin
 have HL:=Lib.hid hL
 obtain ⟨ho,hLL,hkk,hKy⟩:=hin
 have q1:=ho.l
 have q2:=ho.lc
 have q3:=ho.n
 have q4:=ho.nc
 have q5:=hL.l
 have q6:=hL.lc
 have HKY:=Lib.hid hKy
 have HLL:=Lib.hid hLL
 have HKI:=Lib.hid hkk
 obtain ⟨b,off,ea,hbl,hm4,hmi⟩:=m_lit hL hk (Below.refl _ _)
 have HIm:=Lib.hid hmi
 obtain ⟨m,hm⟩:∃ m,M k=m:=⟨_,rfl⟩
 rw [hm] at HIm hmsg hm4 ⊢
 have HM4:=Lib.hid hm4
 rw [okT_msg] at hmsg
 simp only [Bool.and_eq_true,decide_eq_true_eq,Bool.not_eq_true',any_off,Bool.or_eq_false_iff,Bool.not_eq_false',decide_eq_false_iff_not] at hmsg
 obtain ⟨hk8,hmm⟩:=hmsg
 subst hk8
 obtain rfl:nK=nL:=HR.out.2.1 rfl
 have HMM:=Lib.hid hmm
 obtain ⟨R,hR⟩:∃ R,R=(nrm2 M n (.mk 8 neg V bits text aL nK cL kids aK nK cK keys)).msg m:=⟨_,rfl⟩
 rw [← hR]
 rw [nrm_msg] at hR
 obtain ⟨p,hp⟩:∃ p,keptI m keys kids=p:=⟨_,rfl⟩
 rw [hp] at hR
 have HP:=Lib.hid hp
 obtain ⟨fT,hfT⟩:∃ fT:Nat→VT,fT=fun j=>nrmX M n (fldV m (keys (selI p nK j))) (kids (selI p nK j)) (nrm2 M n (kids (selI p nK j))):=⟨_,rfl⟩
 obtain ⟨fK,hfK⟩:∃ fK:Nat→ByteArray,fK=fun j=>keys (selI p nK j):=⟨_,rfl⟩
 rw [← hfT,← hfK] at hR
 have HRR:=Lib.hid hR
 have HFT:=Lib.hid fun (j:Nat) (hj:j < nK) (hpj:p j=true)=>(show fT (cntN p j)=nrmX M n (fldV m (keys j)) (kids j) (nrm2 M n (kids j))∧fK (cntN p j)=keys j from by rw [hfT,hfK];dsimp only;rw [sel_here hj hpj];exact ⟨rfl,rfl⟩)
 have HFK:=Lib.hid fun (i:Nat) (hi:i < cntN p nK)=>(show fK i=keys (selI p nK i)∧selI p nK i < nK from by rw [hfK];exact ⟨rfl,(sel_spec hi).1⟩)
 have HFA:=Lib.hid fun (s:ByteArray) (hz:0≤placeF m s)=>(show Asks M n (fldV m s).type∧((fldV m s).rep && (fldV m s).map)=false from by rw [← hm] at hz ⊢;exact ⟨fld_asks hTy hk hz,fld_both hNB hk hz⟩)
 have HK2:=Lib.hid fun (j:Nat) (hj:j < nK) (s:ByteArray) (hA:Asks M n s) wx (hx:Below w.heap.size w wx) (ho:(okT M n (kids j)).one s=true)=>hK j hj s wx hA (HL.out.below hx) (VT.In.below hx _ (HKI.out j hj)) (HR.out.2.2 j hj) (HLG.out.2.2 j hj) ho
 have HK3:=Lib.hid fun (j:Nat) (hj:j < nK) (q:Nat) (hq:q < (kids j).cnt) (s:ByteArray) (hA:Asks M n s) wx (hx:Below w.heap.size w wx)=>hKK j hj q hq s wx hA (HL.out.below hx)
 have HNS:=Lib.hid hNS
 obtain ⟨iS,hiS,hsS0,hsS1,hsS2⟩:=info_parts infoStr
 obtain ⟨iV,hiV,hvV0,hvV1,hvV2⟩:=info_parts infoVal
 subst ea
 unfold VT.agg VT.cells
 have q7:=HLG.out.1.2.1
 have l5:=HIm.out.f.l
 have l6:=HIm.out.f.lc
 have k1:(k:Int) < (n:Int):=by omega
 have k2:(0:Int)≤(k:Int):=by omega
 have k5:(k:Int).toNat=k:=rfl
 simp only [maxLen] at q2 q4 q6 l6
 clear hL ho hLL hkk hKy hr hmm hp hR hfT hfK hK hKK hTy hNS hNB hbl hmi hlg hm hm4
 go_enter Tryz.func19,Tryz.ntmps19
 go_upto_region 2 with fail
 have NW:=Lib.hid (nv_start w 31 8 neg V bits text aL nK cL aK nK cK)
 generalize ((w.alloc (.cells #[.int .i64 8,.bool neg,.int .u64 (lm V 0:Nat),.int .u64 (lm V 1:Nat),.int .u64 (lm V 2:Nat),.int .u64 (lm V 3:Nat),.int .u64 (bits:Nat),.string text,.slice aL nK cL,.slice aK nK cK] 31)).alloc (.cells #[.int .i64 0,.bool false,.int .u64 0,.int .u64 0,.int .u64 0,.int .u64 0,.int .u64 0,.string ⟨#[]⟩,.slice none 0 0,.slice none 0 0] 31)).alloc (.cells #[.int .i64 8,.bool false,.int .u64 0,.int .u64 0,.int .u64 0,.int .u64 0,.int .u64 0,.string ⟨#[]⟩,.slice none 0 0,.slice none 0 0] 31)=W at *
 obtain ⟨Bv,hBv⟩:∃ B,B=w.heap.size:=⟨_,rfl⟩
 obtain ⟨Br,hBr⟩:∃ B,B=w.heap.size+1:=⟨_,rfl⟩
 obtain ⟨Bo,hBo⟩:∃ B,B=w.heap.size+1+1:=⟨_,rfl⟩
 rw [← hBo,← hBr,← hBv] at NW ⊢
 clear hBo hBr hBv
 repeat any_goals (first|go_skip|go_guarded|go_step|go_upon|(simp only [];done))
 go_loopw [8] (fun i wr=>∃ (j:Nat) (lv kv:Value) (t:Nat→VT),j≤nK∧i=.int .i64 j∧NrI w W wr Bo (.mk 8 neg V bits text aL nK cL kids aK nK cK keys) fK fT (cntN p j) lv kv t) (fun i _=>nK - (intOf i).toNat)
 case atStart=>exact ⟨0,_,_,default,Nat.zero_le _,rfl,NrI.start NW.out.o⟩
 case round=>
  obtain ⟨j,lv,kv,t,hj,rfl,hI⟩:=hrel
  have NI:=Lib.hid hI
  have hWr:=But.old NW.out.b hI.b NW.out.l.2.2.2.2.2.1
  have Vr:=Lib.hid (NW.out.v.same (hI.b.block Bv NW.out.l.2.2.1 NW.out.n.2.1 NW.out.n.2.1))
  obtain ⟨_,_,_,_,_,_,_,_,_,_⟩:=Vr.out.all
  clear hI
  by_cases hjn:j < nK
  ·obtain ⟨kb,ko,rfl,hkb,hkc,hks⟩:=key_lit HKY.out hjn hWr
   obtain ⟨lb,lo,kind',neg',V',bits',text',aL',nL',cL',kids',aK',nK',cK',keys',rfl,hlb,hkid,hcells,hkin⟩:=kid_lit HLL.out HKI.out hjn hWr
   have KB:=Lib.hid (show KBx wr lb (lo+j * 10) kind' neg' V' bits' text' aL' nL' cL' aK' nK' cK' from ⟨hcells⟩)
   obtain ⟨s,hs⟩:∃ s,keys j=s:=⟨_,rfl⟩
   obtain ⟨z,hz⟩:∃ z,placeF m s=z:=⟨_,rfl⟩
   have C1:=Lib.hid fun wx (hx:Below w.heap.size w wx)=>RField_any m s wx (HIm.out.below hx)
   have hfz:=HMM.out j hjn
   rw [hs] at hfz hkc
   rw [hz] at C1 hfz
   obtain ⟨zk,hzk⟩:∃ zk:Nat,z=zk:=⟨z.toNat,by omega⟩
   subst hzk
   have HKC:=Lib.hid hkc
   have hzl:zk < m.nF:=by have:=placeF_lt (m:=m) (s:=s);rw [hz] at this;omega
   obtain ⟨fb,fo,ef,hfb,hf6,-⟩:=f_lit HIm.out.f hzl hWr
   have hfv:fldV m s=m.F zk:=by unfold fldV;rw [hz,if_neg z0c];rfl
   have HFF:=HFA.out s (by rw [hz];omega)
   rw [hfv] at HFF hfz
   obtain ⟨f,hf⟩:∃ f,m.F zk=f:=⟨_,rfl⟩
   rw [hf] at hf6 HFF hfz
   rw [hf] at hfv
   rw [hkid] at hfz hkin
   have HF:=Lib.hid hfv
   have HMO:=Lib.hid hfz.2
   have HKIN:=Lib.hid hkin
   have HKID:=Lib.hid hkid
   have HS:=Lib.hid hs
   obtain ⟨nm,ty,nu,op,re,ma⟩:=f
   have HAS:=Lib.hid HFF.1
   have HNB:=Lib.hid HFF.2
   unfold PM.agg at C1
   obtain ⟨lf,hlf⟩:∃ lf,leftB ⟨nm,ty,nu,op,re,ma⟩ kind' neg' V' bits' text' nL'=lf:=⟨_,rfl⟩
   have HLF:=Lib.hid hlf
   have HPJ:=Lib.hid (show p j = !lf from by rw [← HP.out];unfold keptI;rw [HS.out,HF.out,HKID.out];show (!leftB _ _ _ _ _ _ _)=_;rw [hlf])
   have hm4:=HM4.out.below hWr
   obtain ⟨_,_,_,_⟩:=hm4.all
   obtain ⟨_,_,_,_,_,_⟩:=hf6.all
   obtain ⟨_,_,_,_,_,_,_,_,_,_⟩:=KB.out.all
   rw [ef] at C1
   have ES:=Lib.hid fun w' (h:Below wr.heap.size wr w')=>(show w'.cell? ⟨b,off+k * 4,none⟩=some (.string m.name)∧w'.cell? ⟨b,off+k * 4+1,none⟩=some (.slice (some ⟨fb,fo,none⟩) m.nF m.cF)∧w'.cell? ⟨b,off+k * 4+2,none⟩=some (.slice m.aN m.nN m.cN)∧w'.cell? ⟨b,off+k * 4+3,none⟩=some (.slice m.aS m.nS m.cS)∧w'.cell? ⟨fb,fo+zk * 6,none⟩=some (.string nm)∧w'.cell? ⟨fb,fo+zk * 6+1,none⟩=some (.string ty)∧w'.cell? ⟨fb,fo+zk * 6+2,none⟩=some (.int .i64 nu)∧w'.cell? ⟨fb,fo+zk * 6+3,none⟩=some (.bool op)∧w'.cell? ⟨fb,fo+zk * 6+4,none⟩=some (.bool re)∧w'.cell? ⟨fb,fo+zk * 6+5,none⟩=some (.bool ma)∧w'.cell? ⟨Bv,8,none⟩=some (.slice (some ⟨lb,lo,none⟩) nK cL)∧w'.cell? ⟨Bv,9,none⟩=some (.slice (some ⟨kb,ko,none⟩) nK cK)∧w'.cell? ⟨kb,ko+j,none⟩=some (.string s)∧w'.cell? ⟨lb,lo+j * 10,none⟩=some (.int .i64 kind')∧w'.cell? ⟨lb,lo+j * 10+1,none⟩=some (.bool neg')∧w'.cell? ⟨lb,lo+j * 10+2,none⟩=some (.int .u64 (lm V' 0:Nat))∧w'.cell? ⟨lb,lo+j * 10+3,none⟩=some (.int .u64 (lm V' 1:Nat))∧w'.cell? ⟨lb,lo+j * 10+4,none⟩=some (.int .u64 (lm V' 2:Nat))∧w'.cell? ⟨lb,lo+j * 10+5,none⟩=some (.int .u64 (lm V' 3:Nat))∧w'.cell? ⟨lb,lo+j * 10+6,none⟩=some (.int .u64 (bits':Nat))∧w'.cell? ⟨lb,lo+j * 10+7,none⟩=some (.string text')∧w'.cell? ⟨lb,lo+j * 10+8,none⟩=some (.slice aL' nL' cL')∧w'.cell? ⟨lb,lo+j * 10+9,none⟩=some (.slice aK' nK' cK') from ⟨keep_cell h z0w,keep_cell h (by rw [← ef];assumption),keep_cell h z0w,keep_cell h z0w,keep_cell h z0w,keep_cell h z0w,keep_cell h z0w,keep_cell h z0w,keep_cell h z0w,keep_cell h z0w,keep_cell h z0w,keep_cell h z0w,keep_cell h z0w,keep_cell h z0w,keep_cell h z0w,keep_cell h z0w,keep_cell h z0w,keep_cell h z0w,keep_cell h z0w,keep_cell h z0w,keep_cell h z0w,keep_cell h z0w,keep_cell h z0w⟩)
   have i1:(j:Int) < (nK:Int):=by omega
   have i2:(0:Int)≤(j:Int):=by omega
   have i5:(j:Int).toNat=j:=rfl
   have z1:(zk:Int) < (m.nF:Int):=by omega
   have z2:(0:Int)≤(zk:Int):=by omega
   have z5:(zk:Int).toNat=zk:=rfl
   have hL':nL'≤cL':=HKIN.out.1.l
   clear hs hf hfz hkid hcells hkin hks hlf hz hkc hf6 hfv HFF hm4
   go_upto_region 5 with fail
   go_cut [9,10] (fun s9 s10 wx=>∃ Bf Bx,s9=.pointer (some ⟨Bf,0,none⟩)∧s10=.pointer (some ⟨Bx,0,none⟩)∧FBx wx Bf nm ty nu op re ma∧VBx wx Bx kind' neg' V' bits' text' aL' nL' cL' aK' nK' cK'∧(∀ j,wx.frozen? ⟨Bx,j,none⟩=false)∧wr.heap.size≤Bx∧Below wr.heap.size wr wx)
   case first=>
    go_region_held3 (fun w'=>w'.cell? ⟨b,off+k * 4,none⟩=some (.string m.name)∧w'.cell? ⟨b,off+k * 4+1,none⟩=some (.slice (some ⟨fb,fo,none⟩) m.nF m.cF)∧w'.cell? ⟨b,off+k * 4+2,none⟩=some (.slice m.aN m.nN m.cN)∧w'.cell? ⟨b,off+k * 4+3,none⟩=some (.slice m.aS m.nS m.cS)∧w'.cell? ⟨fb,fo+zk * 6,none⟩=some (.string nm)∧w'.cell? ⟨fb,fo+zk * 6+1,none⟩=some (.string ty)∧w'.cell? ⟨fb,fo+zk * 6+2,none⟩=some (.int .i64 nu)∧w'.cell? ⟨fb,fo+zk * 6+3,none⟩=some (.bool op)∧w'.cell? ⟨fb,fo+zk * 6+4,none⟩=some (.bool re)∧w'.cell? ⟨fb,fo+zk * 6+5,none⟩=some (.bool ma)∧w'.cell? ⟨Bv,8,none⟩=some (.slice (some ⟨lb,lo,none⟩) nK cL)∧w'.cell? ⟨Bv,9,none⟩=some (.slice (some ⟨kb,ko,none⟩) nK cK)∧w'.cell? ⟨kb,ko+j,none⟩=some (.string s)∧w'.cell? ⟨lb,lo+j * 10,none⟩=some (.int .i64 kind')∧w'.cell? ⟨lb,lo+j * 10+1,none⟩=some (.bool neg')∧w'.cell? ⟨lb,lo+j * 10+2,none⟩=some (.int .u64 (lm V' 0:Nat))∧w'.cell? ⟨lb,lo+j * 10+3,none⟩=some (.int .u64 (lm V' 1:Nat))∧w'.cell? ⟨lb,lo+j * 10+4,none⟩=some (.int .u64 (lm V' 2:Nat))∧w'.cell? ⟨lb,lo+j * 10+5,none⟩=some (.int .u64 (lm V' 3:Nat))∧w'.cell? ⟨lb,lo+j * 10+6,none⟩=some (.int .u64 (bits':Nat))∧w'.cell? ⟨lb,lo+j * 10+7,none⟩=some (.string text')∧w'.cell? ⟨lb,lo+j * 10+8,none⟩=some (.slice aL' nL' cL')∧w'.cell? ⟨lb,lo+j * 10+9,none⟩=some (.slice aK' nK' cK')) (first|with_reducible assumption|exact ES.out _ zb2) (first|(go_at_call 38;with_reducible refine (C1.out _ (below_trans hWr zb2)).mono ?_;rintro e w4 ⟨rfl,hb4⟩;have hq4:Below wr.heap.size wr w4:=below_trans zb2 hb4;have hq4s:=hq4.size;(first|(have zF:SxF w4 wr.heap.size (.string ⟨#[]⟩) (.string ⟨#[]⟩) (.int .i64 0) (.bool false) (.bool false) (.bool false):=two_f hb4;have zX:WBx w4 (wr.heap.size+1) (.int .i64 0) (.bool false) (.int .u64 0) (.int .u64 0) (.int .u64 0) (.int .u64 0) (.int .u64 0) (.string ⟨#[]⟩) (.slice none 0 0) (.slice none 0 0):=one_x1 hb4)|(have zX:WBx w4 wr.heap.size (.int .i64 0) (.bool false) (.int .u64 0) (.int .u64 0) (.int .u64 0) (.int .u64 0) (.int .u64 0) (.string ⟨#[]⟩) (.slice none 0 0) (.slice none 0 0):=two_x hb4;have zF:SxF w4 (wr.heap.size+1) (.string ⟨#[]⟩) (.string ⟨#[]⟩) (.int .i64 0) (.bool false) (.bool false) (.bool false):=one_f1 hb4)|(have zF:SxF w4 wr.heap.size (.string ⟨#[]⟩) (.string ⟨#[]⟩) (.int .i64 0) (.bool false) (.bool false) (.bool false):=one_f hb4)|(have zX:WBx w4 wr.heap.size (.int .i64 0) (.bool false) (.int .u64 0) (.int .u64 0) (.int .u64 0) (.int .u64 0) (.int .u64 0) (.string ⟨#[]⟩) (.slice none 0 0) (.slice none 0 0):=one_x hb4)|skip);(try (obtain ⟨_,_,_,_,_,_⟩:=zF.c;have hfF:=zF.f;have hlF:=sxf_lt zF));(try (obtain ⟨_,_,_,_,_,_,_,_,_,_⟩:=zX.c.all;have hfX:=zX.f;have hlX:=zX.lt))))
    all_goals (repeat any_goals (first|go_skip|go_guarded|go_step|go_upon|(simp only [];done)))
    all_goals go_meet
    all_goals exact ⟨_,_,rfl,rfl,⟨by first|(simp [go_sem];done)|simp [go_sem, *]⟩,⟨by first|(simp [go_sem];done)|simp [go_sem, *]⟩,(fun j=>by first|(simp [go_sem];done)|simp [go_sem, *]),z0c,zb2⟩
   case rest=>
    obtain ⟨Bf,Bx,rfl,rfl,hF,hX,hfz,hBxw,hB5⟩:=hcut
    obtain ⟨w5,rfl⟩:∃ w5,w5=wc:=⟨_,rfl⟩
    have F5:=Lib.hid hF
    have X5:=Lib.hid hX
    have Z5:=Lib.hid (show (∀ j,w5.frozen? ⟨Bx,j,none⟩=false)∧Bx < w5.heap.size from ⟨hfz,World.block_lt_of_cell? w5 ⟨Bx,0,none⟩ hX.c.1⟩)
    have hBf:Bf < w5.heap.size:=World.block_lt_of_cell? w5 ⟨Bf,0,none⟩ hF.all.1
    clear hF hX hfz ES C1
    obtain ⟨_,_,_,_,_,_⟩:=F5.out.all
    obtain ⟨_,_,_,_,_,_,_,_,_,_⟩:=X5.out.all
    obtain ⟨rm,hrm⟩:∃ x,(re || ma)=x:=⟨_,rfl⟩
    cases rm with
    | true=>
     have hlf:=HLF.out
     unfold leftB at hlf
     rw [if_pos hrm] at hlf
     have e0:((nL':Int) == 0)=lf:=by
      rw [← hlf]
      by_cases c:nL'=0 <;> simp [c]
     go_upto_region 7 with fail
     go_cut [48] (fun s48 wx=>s48=.bool lf∧w5=wx)
     case first=>
      cases re with
      | true=>
       repeat any_goals (first|go_skip|go_guarded|go_step|go_upon|(simp only [];done))
       go_meet
       exact ⟨by rw [← e0],rfl⟩
      | false=>
       obtain rfl:ma=true:=by simpa using hrm
       repeat any_goals (first|go_skip|go_guarded|go_step|go_upon|(simp only [];done))
       go_meet
       exact ⟨by rw [← e0],rfl⟩
     case rest=>
      obtain ⟨rfl,h2⟩:=hcut
      subst h2
      cases lf with
      | true=>
       repeat any_goals (first|go_skip|go_guarded|go_step|go_upon|(simp only [];done))
       go_roundw
       case rel=>exact ⟨j+1,lv,kv,t,by omega,rfl,by rw [cnt_no HPJ.out];exact NI.out.below hB5⟩
       case measure=>simp [intOf];omega
      | false=>
       go_upto_region 8 with fail
       go_cut [61] (fun s61 wx=>s61=.bool true∧w5=wx)
       case first=>
        cases re with
        | true=>
         repeat any_goals (first|go_skip|go_guarded|go_step|go_upon|(simp only [];done))
         go_meet
         exact ⟨rfl,rfl⟩
        | false=>
         obtain rfl:ma=true:=by simpa using hrm
         repeat any_goals (first|go_skip|go_guarded|go_step|go_upon|(simp only [];done))
         go_meet
         exact ⟨rfl,rfl⟩
       case rest=>
        obtain ⟨rfl,h2⟩:=hcut
        subst h2
        clear e0
        have hnl:0 < nL':=by
         have:=of_decide_eq_false hlf
         omega
        clear hlf
        obtain ⟨g0,o0,rfl⟩:∃ g0 o0,aL'=some ⟨g0,o0,none⟩:=by
         rcases HKIN.out.2.1 with h|⟨x,y,h,-⟩
         ·omega
         ·exact ⟨x,y,h⟩
        have hkd:(kind'=7∨kind'=8)∧∀ q,q < nL'→(okT M n (kids' q)).one ty=true:=by
         have h1:=HMO.out
         have h2:(kind'=7∨kind'=8)∧(okT M n (.mk kind' neg' V' bits' text' (some ⟨g0,o0,none⟩) nL' cL' kids' aK' nK' cK' keys')).all ty=true:=by
          unfold memO at h1
          split at h1
          ·have h3:=(Bool.and_eq_true _ _ ▸ h1)
           exact ⟨.inl (of_decide_eq_true h3.1),h3.2⟩
          ·split at h1
           ·have h3:=(Bool.and_eq_true _ _ ▸ h1)
            exact ⟨.inr (of_decide_eq_true h3.1),h3.2⟩
           ·rename_i a1 a2
            rw [Bool.not_eq_true] at a1 a2
            dsimp only at a1 a2
            rw [a1,a2] at hrm
            cases hrm
         refine ⟨h2.1,fun q hq=>?_⟩
         have h3:=h2.2
         rw [okT_all,Bool.not_eq_true',any_off] at h3
         have h4:=h3 q hq
         rwa [Bool.not_eq_false'] at h4
        have HKD:=Lib.hid hkd
        have hrk:=HR.out.2.2 j hjn
        have hlk:=HLG.out.2.2 j hjn
        rw [HKID.out] at hrk hlk
        have HRJ:=Lib.hid hrk
        have HRK:=Lib.hid (right_parts hrk)
        have HLK:=Lib.hid (long_parts.1 hlk)
        have hnl2:=HLK.out.1.1
        have C5:=Lib.hid fun (q:Nat) (hq:q < nL') wx (hx:Below w.heap.size w wx) (hin:(kids' q).In wx)=>HK3.out j hjn q (by rw [HKID.out];exact hq) ty HAS.out wx hx (by rw [HKID.out];exact hin) (by rw [HKID.out];exact HRK.out.2.2 q hq) (by rw [HKID.out];exact HLK.out.2.2 q hq) (by rw [HKID.out];exact HKD.out.2 q hq)
        rw [HKID.out] at C5
        dsimp only [VT.sub] at C5
        clear hkd hrk hlk
        go_upto_region 10 with fail
        have YO:=Lib.hid (wbx_new w5 31 (.int .i64 kind') (.bool false) (.int .u64 0) (.int .u64 0) (.int .u64 0) (.int .u64 0) (.int .u64 0) (.string ⟨#[]⟩) (.slice none 0 0) (.slice aK' nK' cK'))
        have hV6:=below_alloc (Below.refl w5.heap.size w5) (.cells #[.int .i64 kind',.bool false,.int .u64 0,.int .u64 0,.int .u64 0,.int .u64 0,.int .u64 0,.string ⟨#[]⟩,.slice none 0 0,.slice aK' nK' cK'] 31)
        have hl6:w5.heap.size < (w5.alloc (.cells #[.int .i64 kind',.bool false,.int .u64 0,.int .u64 0,.int .u64 0,.int .u64 0,.int .u64 0,.string ⟨#[]⟩,.slice none 0 0,.slice aK' nK' cK'] 31)).heap.size:=by simp
        generalize w5.alloc (.cells #[.int .i64 kind',.bool false,.int .u64 0,.int .u64 0,.int .u64 0,.int .u64 0,.int .u64 0,.string ⟨#[]⟩,.slice none 0 0,.slice aK' nK' cK'] 31)=w6 at *
        obtain ⟨By,hBy⟩:∃ B,B=w5.heap.size:=⟨_,rfl⟩
        rw [← hBy] at YO hl6 ⊢
        have hBf6:Bf < By:=by rw [hBy];exact hBf
        have hBx6:Bx < By:=by rw [hBy];exact Z5.out.2
        have hBy0:wr.heap.size≤By:=by rw [hBy];exact hB5.size
        clear hBy
        have F6:=Lib.hid (F5.out.below hV6)
        have X6:=Lib.hid (X5.out.below hV6)
        have hf6:∀ j,w6.frozen? ⟨Bx,j,none⟩=false:=fun j=>(hV6.frozen (p:=⟨Bx,j,none⟩) Z5.out.2).trans (Z5.out.1 j)
        have hB6:=below_trans hB5 hV6
        clear hV6 F5 X5 hB5 Z5
        obtain ⟨wv,rfl⟩:∃ x,x=wr:=⟨wr,rfl⟩
        repeat any_goals (first|go_skip|go_guarded|go_step|go_upon|(simp only [];done))
        go_loopw [12] (fun i wq=>∃ (q:Nat) (tq:Nat→VT) (lq:Value),q≤nL'∧i=.int .i64 q∧NrJ wv w6 wq By kind' aK' nK' cK' q kids' (fun i=>nrmO M n ty (kids' i)) tq lq) (fun i _=>nL' - (intOf i).toNat)
        case atStart=>exact ⟨0,default,_,Nat.zero_le _,rfl,NrJ.start YO.out⟩
        case round=>
         obtain ⟨q,tq,lq,hq,rfl,hI⟩:=hrel
         have QI:=Lib.hid hI
         have hBq:Below wv.heap.size wv wr:=But.old hB6 hI.b hBy0
         have hWq:=below_trans hWr hBq
         have Xq:=Lib.hid (X6.out.same (hI.b.block Bx z0c z0c z0c))
         have Fq:=Lib.hid (show FBx wr Bf nm ty nu op re ma from F6.out.same (hI.b.block Bf z0c z0c z0c))
         obtain ⟨_,_,_,_,_,_,_,_,_,_⟩:=Xq.out.all
         have hs6:=hI.b.size
         clear hI
         by_cases hqn:q < nL'
         ·have hkq:=VT.In.below hBq _ (HKIN.out.2.2.1 q hqn)
          obtain ⟨kindq,negq,Vq,bitsq,textq,aLq,nLq,cLq,kidsq,aKq,nKq,cKq,keysq,ekq⟩:=hkq.lit
          have hg0:g0 < wv.heap.size:=by
           rcases HKIN.out.2.1 with h|⟨x,y,h,hb,-⟩
           ·omega
           ·injection h with h
            injection h with h
            omega
          have hcq:∀ i,i < 10→wr.cell? ⟨g0,o0+q * 10+i,none⟩=(VT.cells (.mk kindq negq Vq bitsq textq aLq nLq cLq kidsq aKq nKq cKq keysq))[i]? := fun i hi=>by
           have h:=(VT.In.below hBq _ HKIN.out).2.1
           rcases h with h|⟨x,y,h,hb,hc⟩
           ·omega
           ·injection h with h
            injection h with h1 h2
            subst h1 h2
            rw [← ekq]
            exact hc q hqn i hi
          have KQ:=Lib.hid (show KBx wr g0 (o0+q * 10) kindq negq Vq bitsq textq aLq nLq cLq aKq nKq cKq from ⟨⟨hcq 0 z0c,hcq 1 z0c,hcq 2 z0c,hcq 3 z0c,hcq 4 z0c,hcq 5 z0c,hcq 6 z0c,hcq 7 z0c,hcq 8 z0c,hcq 9 z0c⟩⟩)
          have EKQ:=Lib.hid ekq
          have HKQ:=Lib.hid (show VT.In wr (.mk kindq negq Vq bitsq textq aLq nLq cLq kidsq aKq nKq cKq keysq) from ekq ▸ hkq)
          have C7:=Lib.hid fun wx (hx:Below w.heap.size w wx)=>C5.out q hqn wx hx
          rw [ekq] at C7
          unfold VT.agg VT.cells at C7
          have p1:(q:Int) < (nL':Int):=by omega
          have p2:(0:Int)≤(q:Int):=by omega
          have p5:(q:Int).toNat=q:=rfl
          have hlq:=QI.out.l.lt
          have hqx:some Bx≠lq.ownBlock:=fun e=>by have:=(hlq Bx e.symm).1;omega
          have hqf:some Bf≠lq.ownBlock:=fun e=>by have:=(hlq Bf e.symm).1;omega
          have hqy:some By≠lq.ownBlock:=fun e=>by have:=(hlq By e.symm).1;omega
          have hqg:some g0≠lq.ownBlock:=fun e=>by have:=(hlq g0 e.symm).1;omega
          clear ekq hkq hcq
          go_upto_region 13 with fail
          have hS0:NrZ wr.drew Bx Bf By g0 (o0+q * 10) (some ⟨g0,o0,none⟩) nL' cL' ty lq kindq negq Vq bitsq textq aLq nLq cLq aKq nKq cKq:=NrZ.below ⟨Xq.out.c.2.2.2.2.2.2.2.2.1,Fq.out.all.2.1,QI.out.o.c.all.2.2.2.2.2.2.2.2.1,KQ.out⟩ (Below.refl _ _).drew
          refine wp_region_late (fun w'=>NrZ w' Bx Bf By g0 (o0+q * 10) (some ⟨g0,o0,none⟩) nL' cL' ty lq kindq negq Vq bitsq textq aLq nLq cLq aKq nKq cKq) (fun i=>decide (14≤i)) z0a hS0 (fun hHeld=>?_)
          clear hS0
          refine wpAnyT_take (i:=0) (v:=?_) rfl z0a z0a z0a z0a z0a (fun _ _ _ h=>h) (Or.inl ⟨by rfl,?_⟩) hHeld ?_
          rotate_left
          (focus (intro wq hSw;obtain ⟨_,_,_,_,_,_,_,_,_,_,_,_,_⟩:=hSw.all;go_simp;(try with_reducible rfl)))
          simp only [Act.put,List.setIfInBounds_toArray,List.set_cons_zero,List.set_cons_succ,List.getElem_toArray,List.getElem_cons_zero]
          refine wpAnyT_take (i:=1) (v:=?_) rfl z0a z0a z0a z0a z0a (fun _ _ _ h=>h) (Or.inl ⟨by rfl,?_⟩) hHeld ?_
          rotate_left
          (focus (intro wq hSw;obtain ⟨_,_,_,_,_,_,_,_,_,_,_,_,_⟩:=hSw.all;go_simp;(try with_reducible rfl)))
          refine za6zs2 ?_
          refine wpAnyT_take (i:=2) (v:=?_) rfl z0a z0a z0a z0a z0a (fun _ _ _ h=>h) (Or.inl ⟨by rfl,?_⟩) hHeld ?_
          rotate_left
          (focus (intro wq hSw;obtain ⟨_,_,_,_,_,_,_,_,_,_,_,_,_⟩:=hSw.all;go_simp;(try with_reducible rfl)))
          refine za6zs2 ?_
          refine wpAnyT_take (i:=3) (v:=?_) rfl z0a z0a z0a z0a z0a (fun _ _ _ h=>h) (Or.inl ⟨by rfl,?_⟩) hHeld ?_
          rotate_left
          (focus (intro wq hSw;obtain ⟨_,_,_,_,_,_,_,_,_,_,_,_,_⟩:=hSw.all;go_simp;(try with_reducible rfl)))
          refine za6zs2 ?_
          refine wpAnyT_take (i:=4) (v:=?_) rfl z0a z0a z0a z0a z0a (fun _ _ _ h=>h) (Or.inl ⟨by rfl,?_⟩) hHeld ?_
          rotate_left
          (focus (intro wq hSw;obtain ⟨_,_,_,_,_,_,_,_,_,_,_,_,_⟩:=hSw.all;go_simp;(try with_reducible rfl)))
          refine za6zs2 ?_
          refine wpAnyT_take (i:=5) (v:=?_) rfl z0a z0a z0a z0a z0a (fun _ _ _ h=>h) (Or.inl ⟨by rfl,?_⟩) hHeld ?_
          rotate_left
          (focus (intro wq hSw;obtain ⟨_,_,_,_,_,_,_,_,_,_,_,_,_⟩:=hSw.all;go_simp;(try with_reducible rfl)))
          refine za6zs2 ?_
          refine wpAnyT_take (i:=6) (v:=?_) rfl z0a z0a z0a z0a z0a (fun _ _ _ h=>h) (Or.inl ⟨by rfl,?_⟩) hHeld ?_
          rotate_left
          (focus (intro wq hSw;obtain ⟨_,_,_,_,_,_,_,_,_,_,_,_,_⟩:=hSw.all;go_simp;(try with_reducible rfl)))
          refine za6zs2 ?_
          refine wpAnyT_take (i:=7) (v:=?_) rfl z0a z0a z0a z0a z0a (fun _ _ _ h=>h) (Or.inl ⟨by rfl,?_⟩) hHeld ?_
          rotate_left
          (focus (intro wq hSw;obtain ⟨_,_,_,_,_,_,_,_,_,_,_,_,_⟩:=hSw.all;go_simp;(try with_reducible rfl)))
          refine za6zs2 ?_
          refine wpAnyT_take (i:=8) (v:=?_) rfl z0a z0a z0a z0a z0a (fun _ _ _ h=>h) (Or.inl ⟨by rfl,?_⟩) hHeld ?_
          rotate_left
          (focus (intro wq hSw;obtain ⟨_,_,_,_,_,_,_,_,_,_,_,_,_⟩:=hSw.all;go_simp;(try with_reducible rfl)))
          refine za6zs2 ?_
          refine wpAnyT_take (i:=9) (v:=?_) rfl z0a z0a z0a z0a z0a (fun _ _ _ h=>h) (Or.inl ⟨by rfl,?_⟩) hHeld ?_
          rotate_left
          (focus (intro wq hSw;obtain ⟨_,_,_,_,_,_,_,_,_,_,_,_,_⟩:=hSw.all;go_simp;(try with_reducible rfl)))
          refine za6zs2 ?_
          refine wpAnyT_ready (rs:=[10]) z0a z0f ?_
          refine AllReadyT.cons rfl (fun K hK=>?_) AllReadyT.nil
          go_simp
          (go_at_call 39;with_reducible refine (C7.out _ (below_trans hWq (Below.refl _ _).drew) (VT.In.below (Below.refl _ _).drew _ HKQ.out)).mono ?_;rintro e w9 ⟨tt,rfl,hNT,hb9⟩;obtain ⟨kindt,negt,Vt,bitst,textt,aLt,nLt,cLt,kidst,aKt,nKt,cKt,keyst,rfl⟩:=VT.In.lit hNT.i;simp only)
          have hd9:=below_trans (Below.refl wr.heap.size wr).drew hb9
          refine hK.out _ _ (fun _=>hHeld.below hb9) (fun hN=>?_)
          clear hK K
          replace hHeld:=hN rfl
          clear hN
          refine za6zs1 ?_
          refine wpAnyT_ready (rs:=[11]) z0a z0f ?_
          refine AllReadyT.cons rfl (fun K hK=>?_) AllReadyT.nil
          go_simp
          refine hK.out _ _ (fun _=>hHeld.below (below_alloc (Below.refl _ _) _)) (fun hN=>?_)
          clear hK K
          replace hHeld:=hN rfl
          clear hN
          refine za6zs1 ?_
          refine wpAnyT_ready (rs:=[12]) z0a z0f ?_
          refine AllReadyT.cons rfl (fun K hK=>?_) AllReadyT.nil
          refine step_append_at rfl (.tmp 81) (.tmp 91) 28 rfl w6.heap.size 31 iV (.agg #[.int .i64 0,.bool false,.int .u64 0,.int .u64 0,.int .u64 0,.int .u64 0,.int .u64 0,.string ⟨#[]⟩,.slice none 0 0,.slice none 0 0]) 10 120 Tryz.underlying28 hiV hvV0 hvV1 hvV2 rfl z0e lq q (rowV tq q) z0d (rows_below QI.out.l (show Below wr.heap.size wr (w9.alloc (.cells #[.int .i64 kindt,.bool negt,.int .u64 (lm Vt 0:Nat),.int .u64 (lm Vt 1:Nat),.int .u64 (lm Vt 2:Nat),.int .u64 (lm Vt 3:Nat),.int .u64 (bitst:Nat),.string textt,.slice aLt nLt cLt,.slice aKt nKt cKt] 31)) from zb2)) ⟨w9.heap.size,0,none⟩ 1 1 (VT.cells (.mk kindt negt Vt bitst textt aLt nLt cLt kidst aKt nKt cKt keyst)) z0d rfl (news_ten (show VBx (w9.alloc (.cells #[.int .i64 kindt,.bool negt,.int .u64 (lm Vt 0:Nat),.int .u64 (lm Vt 1:Nat),.int .u64 (lm Vt 2:Nat),.int .u64 (lm Vt 3:Nat),.int .u64 (bitst:Nat),.string textt,.slice aLt nLt cLt,.slice aKt nKt cKt] 31)) w9.heap.size kindt negt Vt bitst textt aLt nLt cLt aKt nKt cKt from ⟨by simp [go_sem]⟩)) (cells_one _) z0k z0c (Nat.le_trans hs6 (show Below wr.heap.size wr (w9.alloc (.cells #[.int .i64 kindt,.bool negt,.int .u64 (lm Vt 0:Nat),.int .u64 (lm Vt 1:Nat),.int .u64 (lm Vt 2:Nat),.int .u64 (lm Vt 3:Nat),.int .u64 (bitst:Nat),.string textt,.slice aLt nLt cLt,.slice aKt nKt cKt] 31)) from zb2).size) ?_
          intro lv1 w10 own2 hg2 hn2
          obtain ⟨gl,cl,rfl⟩:=own_lit own2 z0c
          refine hK.out _ _ (fun _=>hHeld.grown hg2 hqx hqf hqy hqg) (fun hN=>?_)
          clear hK K
          replace hHeld:=hN rfl
          clear hN
          refine za6zs1 ?_
          refine wpAnyT_take (i:=13) (v:=?_) rfl z0a z0a z0a z0a z0a (fun _ _ _ h=>h) (Or.inl ⟨by rfl,?_⟩) hHeld ?_
          rotate_left
          (focus (intro wq hSw;obtain ⟨_,_,_,_,_,_,_,_,_,_,_,_,_⟩:=hSw.all;go_simp;(try with_reducible rfl)))
          refine za6zs2 ?_
          have O10:=(QI.out.o.below (show Below wr.heap.size wr (w9.alloc (.cells #[.int .i64 kindt,.bool negt,.int .u64 (lm Vt 0:Nat),.int .u64 (lm Vt 1:Nat),.int .u64 (lm Vt 2:Nat),.int .u64 (lm Vt 3:Nat),.int .u64 (bitst:Nat),.string textt,.slice aLt nLt cLt,.slice aKt nKt cKt] 31)) from zb2)).same (hg2.block By (QI.out.o.below (show Below wr.heap.size wr (w9.alloc (.cells #[.int .i64 kindt,.bool negt,.int .u64 (lm Vt 0:Nat),.int .u64 (lm Vt 1:Nat),.int .u64 (lm Vt 2:Nat),.int .u64 (lm Vt 3:Nat),.int .u64 (bitst:Nat),.string textt,.slice aLt nLt cLt,.slice aKt nKt cKt] 31)) from zb2)).lt hqy)
          obtain ⟨_,_,_,_,_,_,_,_,_,_⟩:=O10.c.all
          have hf10:=O10.f
          have hl10:=O10.lt
          refine wpAnyT_ready (rs:=[14]) z0a z0f ?_
          refine AllReadyT.cons rfl (fun K hK=>?_) AllReadyT.nil
          go_simp
          refine hK.out _ _ (fun h=>z0q) (fun _=>?_)
          clear hK K
          refine za6zs1 ?_
          refine wpAnyT_done z0a ?_ _
          refine NoPanic.normal ?_
          have EQ:=EKQ.out
          obtain ⟨tq',hq'⟩:=QI.out.push hBy0 hl6 (show Below wr.heap.size wr (w9.alloc (.cells #[.int .i64 kindt,.bool negt,.int .u64 (lm Vt 0:Nat),.int .u64 (lm Vt 1:Nat),.int .u64 (lm Vt 2:Nat),.int .u64 (lm Vt 3:Nat),.int .u64 (bitst:Nat),.string textt,.slice aLt nLt cLt,.slice aKt nKt cKt] 31)) from zb2) hg2 hn2 own2 (T:=(.mk kindt negt Vt bitst textt aLt nLt cLt kidst aKt nKt cKt keyst)) ⟨VT.In.below (below_alloc (Below.refl _ _) _) _ hNT.i,fun Q h0 h1=>hNT.q Q (by rw [EQ] at h0;exact h0) (fun b (hb:wr.heap.size≤b)=>h1 b (Nat.le_trans hBq.size hb)),by
           show Sim _ (nrmO M n ty (kids' q))
           rw [EQ]
           exact hNT.s⟩ (hNT.q (fun b=>b < wv.heap.size∨wr.heap.size≤b) (by
           have h:=(VT.In.blk (HKIN.out.2.2.1 q hqn)).mono (R:=fun b=>b < wv.heap.size∨wr.heap.size≤b) (fun b hb=>.inl hb)
           rw [EQ] at h
           exact h) (fun b hb=>.inr hb))
          have QJ:=Lib.hid hq'
          clear hq' O10 hf10 hl10 own2 hg2 hn2 hNT
          generalize w10.setCell ⟨By,8,none⟩ (.slice (some ⟨gl,0,none⟩) (q+1) cl)=w11 at *
          repeat any_goals (first|go_skip|go_guarded|go_step|go_upon|(simp only [];done))
          go_roundw
          case rel=>exact ⟨q+1,tq',_,by omega,rfl,QJ.out⟩
          case measure=>simp [intOf];omega
         ·have hq':q=nL':=by omega
          have p1:¬ (q:Int) < (nL':Int):=by omega
          have hI:=QI.out
          rw [hq'] at hI
          obtain ⟨aLn,cLn,eln,l1,l2,l3,l4⟩:=rowV_form hI.l fun i hi=>cells_len (hI.t i hi).1.i
          subst eln
          have YQ:=Lib.hid hI.o
          obtain ⟨_,_,_,_,_,_,_,_,_,_⟩:=YQ.out.c.all
          have hfx:∀ j,wr.frozen? ⟨Bx,j,none⟩=false:=fun j=>(World.frozen?_of_block (a:=⟨Bx,j,none⟩) (QI.out.b.block Bx z0c z0c z0c)).trans (hf6 j)
          have hlx:Bx < wr.heap.size:=by omega
          obtain ⟨n0,hn0⟩:∃ x:Bool,x=false:=⟨_,rfl⟩
          obtain ⟨V0,hV0⟩:∃ x:Nat,x=0:=⟨_,rfl⟩
          obtain ⟨b0,hb0⟩:∃ x:Nat,x=0:=⟨_,rfl⟩
          obtain ⟨x0,hx0⟩:∃ x:ByteArray,x=⟨#[]⟩:=⟨_,rfl⟩
          have HI:=Lib.hid hI
          have HE0:=Lib.hid (show n0=false∧V0=0∧b0=0∧x0=⟨#[]⟩ from ⟨hn0,hV0,hb0,hx0⟩)
          have L3:=Lib.hid l3
          clear hI l3 hn0 hV0 hb0 hx0
          go_upto_region 16 with fail
          have hs7:wr.heap.size≤(((((((((((wr.setCell ⟨Bx,0,none⟩ (.int .i64 kind')).setCell ⟨Bx,1,none⟩ (.bool false)).setCell ⟨Bx,2,none⟩ (.int .u64 0)).setCell ⟨Bx,3,none⟩ (.int .u64 0)).setCell ⟨Bx,4,none⟩ (.int .u64 0)).setCell ⟨Bx,5,none⟩ (.int .u64 0)).setCell ⟨Bx,6,none⟩ (.int .u64 0)).setCell ⟨Bx,7,none⟩ (.string ⟨#[]⟩)).setCell ⟨Bx,8,none⟩ (.slice aLn nL' cLn)).setCell ⟨Bx,9,none⟩ (.slice aK' nK' cK'))).heap.size:=z0f
          have hb7:∀ b,b≠Bx→(((((((((((wr.setCell ⟨Bx,0,none⟩ (.int .i64 kind')).setCell ⟨Bx,1,none⟩ (.bool false)).setCell ⟨Bx,2,none⟩ (.int .u64 0)).setCell ⟨Bx,3,none⟩ (.int .u64 0)).setCell ⟨Bx,4,none⟩ (.int .u64 0)).setCell ⟨Bx,5,none⟩ (.int .u64 0)).setCell ⟨Bx,6,none⟩ (.int .u64 0)).setCell ⟨Bx,7,none⟩ (.string ⟨#[]⟩)).setCell ⟨Bx,8,none⟩ (.slice aLn nL' cLn)).setCell ⟨Bx,9,none⟩ (.slice aK' nK' cK'))).heap[b]? = wr.heap[b]? := fun b hb=>set10_block hb
          have X7:=Lib.hid (show VBx ((((((((((wr.setCell ⟨Bx,0,none⟩ (.int .i64 kind')).setCell ⟨Bx,1,none⟩ (.bool false)).setCell ⟨Bx,2,none⟩ (.int .u64 0)).setCell ⟨Bx,3,none⟩ (.int .u64 0)).setCell ⟨Bx,4,none⟩ (.int .u64 0)).setCell ⟨Bx,5,none⟩ (.int .u64 0)).setCell ⟨Bx,6,none⟩ (.int .u64 0)).setCell ⟨Bx,7,none⟩ (.string ⟨#[]⟩)).setCell ⟨Bx,8,none⟩ (.slice aLn nL' cLn)).setCell ⟨Bx,9,none⟩ (.slice aK' nK' cK')) Bx kind' n0 V0 b0 x0 aLn nL' cLn aK' nK' cK' from by
           obtain ⟨rfl,rfl,rfl,rfl⟩:=HE0.out
           exact ⟨by simp [go_sem,lm_none, *]⟩)
          have hB7:Below wv.heap.size wv ((((((((((wr.setCell ⟨Bx,0,none⟩ (.int .i64 kind')).setCell ⟨Bx,1,none⟩ (.bool false)).setCell ⟨Bx,2,none⟩ (.int .u64 0)).setCell ⟨Bx,3,none⟩ (.int .u64 0)).setCell ⟨Bx,4,none⟩ (.int .u64 0)).setCell ⟨Bx,5,none⟩ (.int .u64 0)).setCell ⟨Bx,6,none⟩ (.int .u64 0)).setCell ⟨Bx,7,none⟩ (.string ⟨#[]⟩)).setCell ⟨Bx,8,none⟩ (.slice aLn nL' cLn)).setCell ⟨Bx,9,none⟩ (.slice aK' nK' cK')):=zb2
          generalize ((((((((((wr.setCell ⟨Bx,0,none⟩ (.int .i64 kind')).setCell ⟨Bx,1,none⟩ (.bool false)).setCell ⟨Bx,2,none⟩ (.int .u64 0)).setCell ⟨Bx,3,none⟩ (.int .u64 0)).setCell ⟨Bx,4,none⟩ (.int .u64 0)).setCell ⟨Bx,5,none⟩ (.int .u64 0)).setCell ⟨Bx,6,none⟩ (.int .u64 0)).setCell ⟨Bx,7,none⟩ (.string ⟨#[]⟩)).setCell ⟨Bx,8,none⟩ (.slice aLn nL' cLn)).setCell ⟨Bx,9,none⟩ (.slice aK' nK' cK'))=w7 at *
          have NT:=Lib.hid (show NrT wv w7 (kids j) (fT (cntN p j)) (.mk kind' n0 V0 b0 x0 aLn nL' cLn tq aK' nK' cK' keys') from by
           have hb:=VT.In.below hBq _ HKIN.out
           obtain ⟨e1,e2,e3,e4⟩:=HE0.out
           have hI:=HI.out
           have hin:VT.In wr (.mk kind' n0 V0 b0 x0 aLn nL' cLn tq aK' nK' cK' keys'):=⟨⟨hb.1.k0,hb.1.k1,by rw [e2];decide,by rw [e3];decide,by rw [e4];exact Nat.zero_le _,l1,l2,hb.1.n,hb.1.nc⟩,L3.out,fun i hi=>(hI.t i hi).1.i,hb.2.2.2⟩
           have hbk:VT.Blk (fun b=>b < wv.heap.size∨w6.heap.size≤b) (.mk kind' n0 V0 b0 x0 aLn nL' cLn tq aK' nK' cK' keys'):=⟨.inr fun ad e=>.inr (l4 ad e),(HKIN.out.blk.2.1).imp id fun h ad e=>.inl (h ad e),fun i hi=>(hI.t i hi).2.mono fun b h=>h.1⟩
           refine ⟨hin.kept hs7 (fun b _ h=>hb7 b z0c) hbk,fun Q h0 h1=>?_,?_⟩
           ·rw [HKID.out] at h0
            exact ⟨.inr fun ad e=>h1 _ (Nat.le_trans z0c (l4 ad e)),h0.2.1,fun i hi=>(hI.t i hi).1.q Q (h0.2.2 i hi) h1⟩
           ·rw [(HFT.out j hjn HPJ.out).1,HS.out,HF.out,HKID.out,e1,e2,e3,e4]
            exact list_sim HRJ.out HKD.out.1 hrm _ _ _ fun i hi=>(hI.t i hi).1.s)
          clear hb7 hs7 hBq hWq Xq Fq YQ hfx hlx HI L3
          have hB5:=hB7
          clear hB7
          go_upto_region 16 with fail
          have NI5:=Lib.hid (NI.out.below hB5)
          have hsz:=NI5.out.b.size
          have hkx:some Bx≠kv.ownBlock:=fun e=>by have:=(NI.out.k.lt Bx e.symm).2;omega
          have hlx:some Bx≠lv.ownBlock:=fun e=>by have:=(NI.out.l.lt Bx e.symm).2;omega
          have hko:some Bo≠kv.ownBlock:=fun e=>by have:=(NI.out.k.lt Bo e.symm).1;have:=NW.out.l.2.2.2.2.1;omega
          have hlo:some Bo≠lv.ownBlock:=fun e=>by have:=(NI.out.l.lt Bo e.symm).1;have:=NW.out.l.2.2.2.2.1;omega
          have hkv:some Bv≠kv.ownBlock:=fun e=>by have:=(NI.out.k.lt Bv e.symm).1;have:=NW.out.l.2.1;omega
          have hlv:some Bv≠lv.ownBlock:=fun e=>by have:=(NI.out.l.lt Bv e.symm).1;have:=NW.out.l.2.1;omega
          have hkb2:some kb≠kv.ownBlock:=fun e=>by have:=(NI.out.k.lt kb e.symm).1;have:=NW.out.b.size;omega
          have hlb2:some kb≠lv.ownBlock:=fun e=>by have:=(NI.out.l.lt kb e.symm).1;have:=NW.out.b.size;omega
          have hcn:=cnt_le (p:=p) j
          obtain ⟨cn,hcn2⟩:∃ x,cntN p j=x:=⟨_,rfl⟩
          rw [hcn2] at NI5 hcn
          have hS0:NrS2 w7.drew Bx Bo Bv kb (ko+j) kind' n0 V0 b0 x0 aLn nL' cLn aK' nK' cK' lv kv (.slice (some ⟨kb,ko,none⟩) nK cK) s:=NrS2.below ⟨⟨X7.out,NI5.out.o.c.all.2.2.2.2.2.2.2.2.1,NI5.out.o.c.all.2.2.2.2.2.2.2.2.2⟩,(Vr.out.below hB5).all.2.2.2.2.2.2.2.2.2,keep_cell hB5 HKC.out⟩ (Below.refl _ _).drew
          refine wp_region_late (fun w'=>NrS2 w' Bx Bo Bv kb (ko+j) kind' n0 V0 b0 x0 aLn nL' cLn aK' nK' cK' lv kv (.slice (some ⟨kb,ko,none⟩) nK cK) s) (fun i=>decide (15≤i)) z0a hS0 (fun hHeld=>?_)
          clear hS0
          refine wpAnyT_take (i:=0) (v:=?_) rfl z0a z0a z0a z0a z0a (fun _ _ _ h=>h) (Or.inl ⟨by rfl,?_⟩) hHeld ?_
          rotate_left
          (focus (intro wq hSw;obtain ⟨_,_,_,_,_,_,_,_,_,_,_,_,_,_⟩:=hSw.all;go_simp;(try with_reducible rfl)))
          simp only [Act.put,List.setIfInBounds_toArray,List.set_cons_zero,List.set_cons_succ,List.getElem_toArray,List.getElem_cons_zero]
          refine wpAnyT_take (i:=1) (v:=?_) rfl z0a z0a z0a z0a z0a (fun _ _ _ h=>h) (Or.inl ⟨by rfl,?_⟩) hHeld ?_
          rotate_left
          (focus (intro wq hSw;obtain ⟨_,_,_,_,_,_,_,_,_,_,_,_,_,_⟩:=hSw.all;go_simp;(try with_reducible rfl)))
          refine za6zs2 ?_
          refine wpAnyT_take (i:=2) (v:=?_) rfl z0a z0a z0a z0a z0a (fun _ _ _ h=>h) (Or.inl ⟨by rfl,?_⟩) hHeld ?_
          rotate_left
          (focus (intro wq hSw;obtain ⟨_,_,_,_,_,_,_,_,_,_,_,_,_,_⟩:=hSw.all;go_simp;(try with_reducible rfl)))
          refine za6zs2 ?_
          refine wpAnyT_take (i:=3) (v:=?_) rfl z0a z0a z0a z0a z0a (fun _ _ _ h=>h) (Or.inl ⟨by rfl,?_⟩) hHeld ?_
          rotate_left
          (focus (intro wq hSw;obtain ⟨_,_,_,_,_,_,_,_,_,_,_,_,_,_⟩:=hSw.all;go_simp;(try with_reducible rfl)))
          refine za6zs2 ?_
          refine wpAnyT_take (i:=4) (v:=?_) rfl z0a z0a z0a z0a z0a (fun _ _ _ h=>h) (Or.inl ⟨by rfl,?_⟩) hHeld ?_
          rotate_left
          (focus (intro wq hSw;obtain ⟨_,_,_,_,_,_,_,_,_,_,_,_,_,_⟩:=hSw.all;go_simp;(try with_reducible rfl)))
          refine za6zs2 ?_
          refine wpAnyT_take (i:=5) (v:=?_) rfl z0a z0a z0a z0a z0a (fun _ _ _ h=>h) (Or.inl ⟨by rfl,?_⟩) hHeld ?_
          rotate_left
          (focus (intro wq hSw;obtain ⟨_,_,_,_,_,_,_,_,_,_,_,_,_,_⟩:=hSw.all;go_simp;(try with_reducible rfl)))
          refine za6zs2 ?_
          refine wpAnyT_take (i:=6) (v:=?_) rfl z0a z0a z0a z0a z0a (fun _ _ _ h=>h) (Or.inl ⟨by rfl,?_⟩) hHeld ?_
          rotate_left
          (focus (intro wq hSw;obtain ⟨_,_,_,_,_,_,_,_,_,_,_,_,_,_⟩:=hSw.all;go_simp;(try with_reducible rfl)))
          refine za6zs2 ?_
          refine wpAnyT_take (i:=9) (v:=?_) rfl z0a z0a z0a z0a z0a (fun _ _ _ h=>h) (Or.inl ⟨by rfl,?_⟩) hHeld ?_
          rotate_left
          (focus (intro wq hSw;obtain ⟨_,_,_,_,_,_,_,_,_,_,_,_,_,_⟩:=hSw.all;go_simp;(try with_reducible rfl)))
          refine za6zs2 ?_
          refine wpAnyT_take (i:=10) (v:=?_) rfl z0a z0a z0a z0a z0a (fun _ _ _ h=>h) (Or.inl ⟨by rfl,?_⟩) hHeld ?_
          rotate_left
          (focus (intro wq hSw;obtain ⟨_,_,_,_,_,_,_,_,_,_,_,_,_,_⟩:=hSw.all;go_simp;(try with_reducible rfl)))
          refine za6zs2 ?_
          refine wpAnyT_take (i:=11) (v:=?_) rfl z0a z0a z0a z0a z0a (fun _ _ _ h=>h) (Or.inl ⟨by rfl,?_⟩) hHeld ?_
          rotate_left
          (focus (intro wq hSw;obtain ⟨_,_,_,_,_,_,_,_,_,_,_,_,_,_⟩:=hSw.all;go_simp;(try with_reducible rfl)))
          refine za6zs2 ?_
          refine wpAnyT_ready (rs:=[7,12]) z0a z0f ?_
          refine AllReadyT.cons rfl (fun K hK=>?_) (AllReadyT.cons rfl (fun K hK=>?_) AllReadyT.nil)
          ·go_simp
           refine hK.out _ _ (fun _=>hHeld.below (below_alloc (Below.refl _ _) _)) (fun hN=>?_)
           clear hK K
           replace hHeld:=hN rfl
           clear hN
           refine za6zs1 ?_
           refine wpAnyT_ready (rs:=[8,12]) z0a z0f ?_
           refine AllReadyT.cons rfl (fun K hK=>?_) (AllReadyT.cons rfl (fun K hK=>?_) AllReadyT.nil)
           ·refine step_append_at rfl (.tmp 109) (.tmp 115) 29 rfl W.heap.size 9 iS (.string ⟨#[]⟩) 1 16 Tryz.underlying29 hiS hsS0 hsS1 hsS2 rfl z0e kv cn (rowK fK cn) z0d (rows_below NI5.out.k (show Below w7.heap.size w7 _ from zb2)) ⟨w7.heap.size,0,none⟩ 1 1 [.string s] z0d rfl (news_one z0z) oneC_str z0k z0c (Nat.le_trans hsz (show Below w7.heap.size w7 _ from zb2).size) ?_
            intro kv1 wa own1 hg1 hn1
            obtain ⟨gk,ck,rfl⟩:=own_lit own1 z0c
            refine hK.out _ _ (fun _=>hHeld.grown hg1 hkx hko hkv hkb2) (fun _=>?_)
            clear hK K
            have HS1:=hHeld.grown hg1 hkx hko hkv hkb2
            have hA:=(show Below w7.heap.size w7 (w7.drew.alloc (.cells #[.string s] 9)) from zb2)
            have OL1:=(rows_below NI5.out.l hA).kept hg1 (rows_ne (rows_below NI5.out.l hA) (rows_below NI5.out.k hA) z0e)
            clear hHeld
            have hHeld:=HS1
            clear HS1
            refine za6zs1 ?_
            refine wpAnyT_take (i:=14) (v:=?_) rfl z0a z0a z0a z0a z0a (fun _ _ _ h=>h) (Or.inl ⟨by rfl,?_⟩) hHeld ?_
            rotate_left
            (focus (intro wq hSw;obtain ⟨_,_,_,_,_,_,_,_,_,_,_,_,_,_⟩:=hSw.all;go_simp;(try with_reducible rfl)))
            refine za6zs2 ?_
            refine wpAnyT_ready (rs:=[12]) z0a z0f ?_
            refine AllReadyT.cons rfl (fun K hK=>?_) AllReadyT.nil
            go_simp
            refine hK.out _ _ (fun _=>hHeld.below (below_alloc (Below.refl _ _) _)) (fun hN=>?_)
            clear hK K
            replace hHeld:=hN rfl
            clear hN
            refine za6zs1 ?_
            refine wpAnyT_ready (rs:=[13]) z0a z0f ?_
            refine AllReadyT.cons rfl (fun K hK=>?_) AllReadyT.nil
            refine step_append_at rfl (.tmp 118) (.tmp 120) 28 rfl W.heap.size 31 iV (.agg #[.int .i64 0,.bool false,.int .u64 0,.int .u64 0,.int .u64 0,.int .u64 0,.int .u64 0,.string ⟨#[]⟩,.slice none 0 0,.slice none 0 0]) 10 120 Tryz.underlying28 hiV hvV0 hvV1 hvV2 rfl z0e lv cn (rowV t cn) z0d (rows_below OL1 (show Below wa.heap.size wa _ from zb2)) ⟨wa.heap.size,0,none⟩ 1 1 (VT.cells (.mk kind' n0 V0 b0 x0 aLn nL' cLn tq aK' nK' cK' keys')) z0d rfl (news_ten (show VBx (wa.alloc (.cells #[.int .i64 kind',.bool n0,.int .u64 (lm V0 0:Nat),.int .u64 (lm V0 1:Nat),.int .u64 (lm V0 2:Nat),.int .u64 (lm V0 3:Nat),.int .u64 (b0:Nat),.string x0,.slice aLn nL' cLn,.slice aK' nK' cK'] 31)) wa.heap.size kind' n0 V0 b0 x0 aLn nL' cLn aK' nK' cK' from ⟨by simp [go_sem]⟩)) (cells_one _) z0k z0c (Nat.le_trans (Nat.le_trans hsz hA.size) (Nat.le_trans hg1.size (show Below wa.heap.size wa _ from zb2).size)) ?_
            intro lv1 w6 own2 hg2 hn2
            obtain ⟨gl,cl,rfl⟩:=own_lit own2 z0c
            refine hK.out _ _ (fun _=>hHeld.grown hg2 hlx hlo hlv hlb2) (fun _=>?_)
            clear hK K
            have AP:=Lib.hid (ap2_of hA hg1 hn1 own1 (show Below wa.heap.size wa (wa.alloc (.cells #[.int .i64 kind',.bool n0,.int .u64 (lm V0 0:Nat),.int .u64 (lm V0 1:Nat),.int .u64 (lm V0 2:Nat),.int .u64 (lm V0 3:Nat),.int .u64 (b0:Nat),.string x0,.slice aLn nL' cLn,.slice aK' nK' cK'] 31)) from zb2) hg2 hn2 own2 (rows_below OL1 (show Below wa.heap.size wa (wa.alloc (.cells #[.int .i64 kind',.bool n0,.int .u64 (lm V0 0:Nat),.int .u64 (lm V0 1:Nat),.int .u64 (lm V0 2:Nat),.int .u64 (lm V0 3:Nat),.int .u64 (b0:Nat),.string x0,.slice aLn nL' cLn,.slice aK' nK' cK'] 31)) from zb2)))
            exact za6zk1
           ·go_simp
            refine hK.out _ _ (fun _=>hHeld.below (below_alloc (Below.refl _ _) _)) (fun hN=>?_)
            clear hK K
            replace hHeld:=hN rfl
            clear hN
            refine za6zs1 ?_
            refine wpAnyT_ready (rs:=[8]) z0a z0f ?_
            refine AllReadyT.cons rfl (fun K hK=>?_) AllReadyT.nil
            refine step_append_at rfl (.tmp 109) (.tmp 115) 29 rfl W.heap.size 9 iS (.string ⟨#[]⟩) 1 16 Tryz.underlying29 hiS hsS0 hsS1 hsS2 rfl z0e kv cn (rowK fK cn) z0d (rows_below NI5.out.k (show Below w7.heap.size w7 _ from zb2)) ⟨w7.heap.size,0,none⟩ 1 1 [.string s] z0d rfl (news_one z0z) oneC_str z0k z0c (Nat.le_trans hsz (show Below w7.heap.size w7 _ from zb2).size) ?_
            intro kv1 wa own1 hg1 hn1
            obtain ⟨gk,ck,rfl⟩:=own_lit own1 z0c
            refine hK.out _ _ (fun _=>hHeld.grown hg1 hkx hko hkv hkb2) (fun _=>?_)
            clear hK K
            have HS1:=hHeld.grown hg1 hkx hko hkv hkb2
            have hA:=(show Below w7.heap.size w7 ((w7.drew.alloc (.cells #[.string s] 9)).alloc (.cells #[.int .i64 kind',.bool n0,.int .u64 (lm V0 0:Nat),.int .u64 (lm V0 1:Nat),.int .u64 (lm V0 2:Nat),.int .u64 (lm V0 3:Nat),.int .u64 (b0:Nat),.string x0,.slice aLn nL' cLn,.slice aK' nK' cK'] 31)) from zb2)
            have OL1:=(rows_below NI5.out.l hA).kept hg1 (rows_ne (rows_below NI5.out.l hA) (rows_below NI5.out.k hA) z0e)
            have XV1:VBx wa (w7.heap.size+1) kind' n0 V0 b0 x0 aLn nL' cLn aK' nK' cK':=VBx.same (show VBx ((w7.drew.alloc (.cells #[.string s] 9)).alloc (.cells #[.int .i64 kind',.bool n0,.int .u64 (lm V0 0:Nat),.int .u64 (lm V0 1:Nat),.int .u64 (lm V0 2:Nat),.int .u64 (lm V0 3:Nat),.int .u64 (b0:Nat),.string x0,.slice aLn nL' cLn,.slice aK' nK' cK'] 31)) (w7.heap.size+1) kind' n0 V0 b0 x0 aLn nL' cLn aK' nK' cK' from ⟨by simp [go_sem]⟩) (hg1.block (w7.heap.size+1) (by simp <;> omega) (fun e=>by have:=(NI5.out.k.lt _ e.symm).2;omega))
            clear hHeld
            have hHeld:=HS1
            clear HS1
            refine za6zs1 ?_
            refine wpAnyT_take (i:=14) (v:=?_) rfl z0a z0a z0a z0a z0a (fun _ _ _ h=>h) (Or.inl ⟨by rfl,?_⟩) hHeld ?_
            rotate_left
            (focus (intro wq hSw;obtain ⟨_,_,_,_,_,_,_,_,_,_,_,_,_,_⟩:=hSw.all;go_simp;(try with_reducible rfl)))
            refine za6zs2 ?_
            refine wpAnyT_ready (rs:=[13]) z0a z0f ?_
            refine AllReadyT.cons rfl (fun K hK=>?_) AllReadyT.nil
            refine step_append_at rfl (.tmp 118) (.tmp 120) 28 rfl W.heap.size 31 iV (.agg #[.int .i64 0,.bool false,.int .u64 0,.int .u64 0,.int .u64 0,.int .u64 0,.int .u64 0,.string ⟨#[]⟩,.slice none 0 0,.slice none 0 0]) 10 120 Tryz.underlying28 hiV hvV0 hvV1 hvV2 rfl z0e lv cn (rowV t cn) z0d (rows_below OL1 (show Below wa.heap.size wa _ from zb2)) ⟨w7.heap.size+1,0,none⟩ 1 1 (VT.cells (.mk kind' n0 V0 b0 x0 aLn nL' cLn tq aK' nK' cK' keys')) z0d rfl (news_ten XV1) (cells_one _) z0k z0c (Nat.le_trans (Nat.le_trans hsz hA.size) (Nat.le_trans hg1.size (show Below wa.heap.size wa _ from zb2).size)) ?_
            intro lv1 w6 own2 hg2 hn2
            obtain ⟨gl,cl,rfl⟩:=own_lit own2 z0c
            refine hK.out _ _ (fun _=>hHeld.grown hg2 hlx hlo hlv hlb2) (fun _=>?_)
            clear hK K
            have AP:=Lib.hid (ap2_of hA hg1 hn1 own1 (show Below wa.heap.size wa wa from zb2) hg2 hn2 own2 (rows_below OL1 (show Below wa.heap.size wa wa from zb2)))
            exact za6zk1
          ·go_simp
           refine hK.out _ _ (fun _=>hHeld.below (below_alloc (Below.refl _ _) _)) (fun hN=>?_)
           clear hK K
           replace hHeld:=hN rfl
           clear hN
           refine za6zs1 ?_
           refine wpAnyT_ready (rs:=[7]) z0a z0f ?_
           refine AllReadyT.cons rfl (fun K hK=>?_) AllReadyT.nil
           go_simp
           refine hK.out _ _ (fun _=>hHeld.below (below_alloc (Below.refl _ _) _)) (fun hN=>?_)
           clear hK K
           replace hHeld:=hN rfl
           clear hN
           refine za6zs1 ?_
           refine wpAnyT_ready (rs:=[8]) z0a z0f ?_
           refine AllReadyT.cons rfl (fun K hK=>?_) AllReadyT.nil
           refine step_append_at rfl (.tmp 109) (.tmp 115) 29 rfl W.heap.size 9 iS (.string ⟨#[]⟩) 1 16 Tryz.underlying29 hiS hsS0 hsS1 hsS2 rfl z0e kv cn (rowK fK cn) z0d (rows_below NI5.out.k (show Below w7.heap.size w7 _ from zb2)) ⟨w7.heap.size+1,0,none⟩ 1 1 [.string s] z0d rfl (news_one z0z) oneC_str z0k z0c (Nat.le_trans hsz (show Below w7.heap.size w7 _ from zb2).size) ?_
           intro kv1 wa own1 hg1 hn1
           obtain ⟨gk,ck,rfl⟩:=own_lit own1 z0c
           refine hK.out _ _ (fun _=>hHeld.grown hg1 hkx hko hkv hkb2) (fun _=>?_)
           clear hK K
           have HS1:=hHeld.grown hg1 hkx hko hkv hkb2
           have hA:=(show Below w7.heap.size w7 ((w7.drew.alloc (.cells #[.int .i64 kind',.bool n0,.int .u64 (lm V0 0:Nat),.int .u64 (lm V0 1:Nat),.int .u64 (lm V0 2:Nat),.int .u64 (lm V0 3:Nat),.int .u64 (b0:Nat),.string x0,.slice aLn nL' cLn,.slice aK' nK' cK'] 31)).alloc (.cells #[.string s] 9)) from zb2)
           have OL1:=(rows_below NI5.out.l hA).kept hg1 (rows_ne (rows_below NI5.out.l hA) (rows_below NI5.out.k hA) z0e)
           have XV1:VBx wa w7.heap.size kind' n0 V0 b0 x0 aLn nL' cLn aK' nK' cK':=VBx.same (show VBx ((w7.drew.alloc (.cells #[.int .i64 kind',.bool n0,.int .u64 (lm V0 0:Nat),.int .u64 (lm V0 1:Nat),.int .u64 (lm V0 2:Nat),.int .u64 (lm V0 3:Nat),.int .u64 (b0:Nat),.string x0,.slice aLn nL' cLn,.slice aK' nK' cK'] 31)).alloc (.cells #[.string s] 9)) w7.heap.size kind' n0 V0 b0 x0 aLn nL' cLn aK' nK' cK' from ⟨by simp [go_sem]⟩) (hg1.block w7.heap.size (by simp <;> omega) (fun e=>by have:=(NI5.out.k.lt _ e.symm).2;omega))
           clear hHeld
           have hHeld:=HS1
           clear HS1
           refine za6zs1 ?_
           refine wpAnyT_take (i:=14) (v:=?_) rfl z0a z0a z0a z0a z0a (fun _ _ _ h=>h) (Or.inl ⟨by rfl,?_⟩) hHeld ?_
           rotate_left
           (focus (intro wq hSw;obtain ⟨_,_,_,_,_,_,_,_,_,_,_,_,_,_⟩:=hSw.all;go_simp;(try with_reducible rfl)))
           refine za6zs2 ?_
           refine wpAnyT_ready (rs:=[13]) z0a z0f ?_
           refine AllReadyT.cons rfl (fun K hK=>?_) AllReadyT.nil
           refine step_append_at rfl (.tmp 118) (.tmp 120) 28 rfl W.heap.size 31 iV (.agg #[.int .i64 0,.bool false,.int .u64 0,.int .u64 0,.int .u64 0,.int .u64 0,.int .u64 0,.string ⟨#[]⟩,.slice none 0 0,.slice none 0 0]) 10 120 Tryz.underlying28 hiV hvV0 hvV1 hvV2 rfl z0e lv cn (rowV t cn) z0d (rows_below OL1 (show Below wa.heap.size wa _ from zb2)) ⟨w7.heap.size,0,none⟩ 1 1 (VT.cells (.mk kind' n0 V0 b0 x0 aLn nL' cLn tq aK' nK' cK' keys')) z0d rfl (news_ten XV1) (cells_one _) z0k z0c (Nat.le_trans (Nat.le_trans hsz hA.size) (Nat.le_trans hg1.size (show Below wa.heap.size wa _ from zb2).size)) ?_
           intro lv1 w6 own2 hg2 hn2
           obtain ⟨gl,cl,rfl⟩:=own_lit own2 z0c
           refine hK.out _ _ (fun _=>hHeld.grown hg2 hlx hlo hlv hlb2) (fun _=>?_)
           clear hK K
           have AP:=Lib.hid (ap2_of hA hg1 hn1 own1 (show Below wa.heap.size wa wa from zb2) hg2 hn2 own2 (rows_below OL1 (show Below wa.heap.size wa wa from zb2)))
           exact za6zk1
    | false=>
     obtain ⟨rfl,rfl⟩:re=false∧ma=false:=by simpa using hrm
     have hon:(okT M n (.mk kind' neg' V' bits' text' aL' nL' cL' kids' aK' nK' cK' keys')).one ty=true:=by
      have h1:=HMO.out
      unfold memO at h1
      rw [if_neg Bool.false_ne_true,if_neg Bool.false_ne_true] at h1
      exact h1
     have hrk:=HR.out.2.2 j hjn
     rw [HKID.out] at hrk
     obtain ⟨sc,hsc⟩:∃ x,scalarB ty=x:=⟨_,rfl⟩
     obtain ⟨nt,hnt⟩:∃ x,noughtB kind' neg' V' bits' text'=x:=⟨_,rfl⟩
     have hlf:lf=(sc && !op && nt):=by
      have h:=HLF.out
      unfold leftB at h
      dsimp only at h
      rw [if_neg z0e,hsc] at h
      rw [← h]
      cases sc with
      | false=>simp
      | true=>
       rw [okT_one,if_pos hsc] at hon
       rw [← hnt,left_nought hrk (scT_kinds hon)]
       cases op <;> simp
     have CS:=Lib.hid fun wx=>RScalar_any ty wx
     rw [hsc] at CS
     have CE:=Lib.hid fun wx=>RZero_any kind' neg' V' bits' text' aL' nL' cL' aK' nK' cK' HKIN.out.1.v wx
     rw [hnt] at CE
     have C4:=Lib.hid fun wx (hx:Below w.heap.size w wx)=>HK2.out j hjn ty HAS.out wx hx (by rw [HKID.out];exact hon)
     rw [HKID.out] at C4
     unfold VT.agg VT.cells at C4
     have HNX:=Lib.hid (show ∀ r,r=nrm2 M n (kids j)→nrmX M n ⟨nm,ty,nu,op,false,false⟩ (kids j) r=nrmO M n ty (kids j) from fun r hr=>by
      unfold nrmX nrmO
      rw [if_neg (show ¬ (false || false)=true by decide),hr])
     have HL2:=Lib.hid hlf
     clear hon hrk hsc hnt hlf
     go_upto_region 15 with fail
     go_cut [95] (fun s95 wx=>s95=.bool lf∧Below w5.heap.size w5 wx)
     case first=>
      cases sc with
      | false=>
       obtain rfl:lf=false:=HL2.out
       repeat any_goals (first|(go_at_call 40;with_reducible refine (CS.out _).mono ?_;rintro e w6 ⟨rfl,hb6⟩)|go_skip|go_guarded|go_step|go_upon|(dsimp only []))
       go_meet
       exact ⟨rfl,hb6⟩
      | true=>
       cases op with
       | true=>
        obtain rfl:lf=false:=HL2.out
        repeat any_goals (first|(go_at_call 40;with_reducible refine (CS.out _).mono ?_;rintro e w6 ⟨rfl,hb6⟩;have F6:=Lib.hid (F5.out.below hb6);obtain ⟨_,_,_,_,_,_⟩:=F6.out.all)|go_skip|go_guarded|go_step|go_upon|(dsimp only []))
        go_meet
        exact ⟨rfl,hb6⟩
       | false=>
        obtain rfl:lf=nt:=HL2.out.trans (by rfl)
        repeat any_goals (first|(go_at_call 40;with_reducible refine (CS.out _).mono ?_;rintro e w6 ⟨rfl,hb6⟩;have F6:=Lib.hid (F5.out.below hb6);obtain ⟨_,_,_,_,_,_⟩:=F6.out.all;have X6:=Lib.hid (X5.out.below hb6);obtain ⟨_,_,_,_,_,_,_,_,_,_⟩:=X6.out.all)|(go_at_call 41;with_reducible refine (CE.out _).mono ?_;rintro e w7 ⟨rfl,hb7⟩)|go_skip|go_guarded|go_step|go_upon|(dsimp only []))
        go_meet
        exact ⟨rfl,below_trans hb6 hb7⟩
     case rest=>
      obtain ⟨rfl,hq6⟩:=hcut
      obtain ⟨w6,rfl⟩:∃ w6,w6=wc:=⟨_,rfl⟩
      have F6:=Lib.hid (F5.out.below hq6)
      have X6:=Lib.hid (X5.out.below hq6)
      have Z6:=Lib.hid (show (∀ j,w6.frozen? ⟨Bx,j,none⟩=false)∧Bx < w6.heap.size from ⟨fun j=>(hq6.frozen (p:=⟨Bx,j,none⟩) Z5.out.2).trans (Z5.out.1 j),Nat.lt_of_lt_of_le Z5.out.2 hq6.size⟩)
      have hB6:=below_trans hB5 hq6
      obtain ⟨_,_,_,_,_,_⟩:=F6.out.all
      obtain ⟨_,_,_,_,_,_,_,_,_,_⟩:=X6.out.all
      clear F5 X5 Z5 hB5 hq6 CS CE HL2
      cases lf with
      | true=>
       repeat any_goals (first|go_skip|go_guarded|go_step|go_upon|(simp only [];done))
       go_roundw
       case rel=>exact ⟨j+1,lv,kv,t,by omega,rfl,by rw [cnt_no HPJ.out];exact NI.out.below hB6⟩
       case measure=>simp [intOf];omega
      | false=>
       go_upto_region 16 with (go_at_call 39;with_reducible refine (C4.out _ (below_trans hWr hB6)).mono ?_;rintro e w7 ⟨tt,rfl,hNT,hb7⟩;obtain ⟨kindt,negt,Vt,bitst,textt,aLt,nLt,cLt,kidst,aKt,nKt,cKt,keyst,rfl⟩:=VT.In.lit hNT.i;simp only;have X7:=Lib.hid (X6.out.below hb7);obtain ⟨_,_,_,_,_,_,_,_,_,_⟩:=X7.out.all;have hf7:∀ j,w7.frozen? ⟨Bx,j,none⟩=false:=(fun j=>(hb7.frozen (p:=⟨Bx,j,none⟩) Z6.out.2).trans (Z6.out.1 j));have hl7:=Nat.lt_of_lt_of_le Z6.out.2 hb7.size)
       have hs8:w7.heap.size≤(((((((((((w7.setCell ⟨Bx,0,none⟩ (.int .i64 kindt)).setCell ⟨Bx,1,none⟩ (.bool negt)).setCell ⟨Bx,2,none⟩ (.int .u64 (lm Vt 0:Nat))).setCell ⟨Bx,3,none⟩ (.int .u64 (lm Vt 1:Nat))).setCell ⟨Bx,4,none⟩ (.int .u64 (lm Vt 2:Nat))).setCell ⟨Bx,5,none⟩ (.int .u64 (lm Vt 3:Nat))).setCell ⟨Bx,6,none⟩ (.int .u64 (bitst:Nat))).setCell ⟨Bx,7,none⟩ (.string textt)).setCell ⟨Bx,8,none⟩ (.slice aLt nLt cLt)).setCell ⟨Bx,9,none⟩ (.slice aKt nKt cKt))).heap.size:=z0f
       have hb8:∀ b,b≠Bx→(((((((((((w7.setCell ⟨Bx,0,none⟩ (.int .i64 kindt)).setCell ⟨Bx,1,none⟩ (.bool negt)).setCell ⟨Bx,2,none⟩ (.int .u64 (lm Vt 0:Nat))).setCell ⟨Bx,3,none⟩ (.int .u64 (lm Vt 1:Nat))).setCell ⟨Bx,4,none⟩ (.int .u64 (lm Vt 2:Nat))).setCell ⟨Bx,5,none⟩ (.int .u64 (lm Vt 3:Nat))).setCell ⟨Bx,6,none⟩ (.int .u64 (bitst:Nat))).setCell ⟨Bx,7,none⟩ (.string textt)).setCell ⟨Bx,8,none⟩ (.slice aLt nLt cLt)).setCell ⟨Bx,9,none⟩ (.slice aKt nKt cKt))).heap[b]? = w7.heap[b]? := fun b hb=>set10_block hb
       have X8:=Lib.hid (show VBx ((((((((((w7.setCell ⟨Bx,0,none⟩ (.int .i64 kindt)).setCell ⟨Bx,1,none⟩ (.bool negt)).setCell ⟨Bx,2,none⟩ (.int .u64 (lm Vt 0:Nat))).setCell ⟨Bx,3,none⟩ (.int .u64 (lm Vt 1:Nat))).setCell ⟨Bx,4,none⟩ (.int .u64 (lm Vt 2:Nat))).setCell ⟨Bx,5,none⟩ (.int .u64 (lm Vt 3:Nat))).setCell ⟨Bx,6,none⟩ (.int .u64 (bitst:Nat))).setCell ⟨Bx,7,none⟩ (.string textt)).setCell ⟨Bx,8,none⟩ (.slice aLt nLt cLt)).setCell ⟨Bx,9,none⟩ (.slice aKt nKt cKt)) Bx kindt negt Vt bitst textt aLt nLt cLt aKt nKt cKt from ⟨by simp [go_sem, *]⟩)
       have hB7:=below_trans hB6 hb7
       have hB8:Below wr.heap.size wr ((((((((((w7.setCell ⟨Bx,0,none⟩ (.int .i64 kindt)).setCell ⟨Bx,1,none⟩ (.bool negt)).setCell ⟨Bx,2,none⟩ (.int .u64 (lm Vt 0:Nat))).setCell ⟨Bx,3,none⟩ (.int .u64 (lm Vt 1:Nat))).setCell ⟨Bx,4,none⟩ (.int .u64 (lm Vt 2:Nat))).setCell ⟨Bx,5,none⟩ (.int .u64 (lm Vt 3:Nat))).setCell ⟨Bx,6,none⟩ (.int .u64 (bitst:Nat))).setCell ⟨Bx,7,none⟩ (.string textt)).setCell ⟨Bx,8,none⟩ (.slice aLt nLt cLt)).setCell ⟨Bx,9,none⟩ (.slice aKt nKt cKt)):=zb2
       generalize ((((((((((w7.setCell ⟨Bx,0,none⟩ (.int .i64 kindt)).setCell ⟨Bx,1,none⟩ (.bool negt)).setCell ⟨Bx,2,none⟩ (.int .u64 (lm Vt 0:Nat))).setCell ⟨Bx,3,none⟩ (.int .u64 (lm Vt 1:Nat))).setCell ⟨Bx,4,none⟩ (.int .u64 (lm Vt 2:Nat))).setCell ⟨Bx,5,none⟩ (.int .u64 (lm Vt 3:Nat))).setCell ⟨Bx,6,none⟩ (.int .u64 (bitst:Nat))).setCell ⟨Bx,7,none⟩ (.string textt)).setCell ⟨Bx,8,none⟩ (.slice aLt nLt cLt)).setCell ⟨Bx,9,none⟩ (.slice aKt nKt cKt))=w8 at *
       have NT:=Lib.hid (show NrT wr w8 (kids j) (fT (cntN p j)) (.mk kindt negt Vt bitst textt aLt nLt cLt kidst aKt nKt cKt keyst) from ⟨hNT.i.kept hs8 (fun b _ h=>hb8 b h) (hNT.q (fun b=>b≠Bx) (HKIN.out.blk.mono fun b (hb:b < wr.heap.size)=>by omega) (fun b (hb:w6.heap.size≤b)=>by have:=Z6.out.2;omega)),fun Q h0 h1=>hNT.q Q (by rwa [HKID.out] at h0) (fun b (hb:w6.heap.size≤b)=>h1 b (Nat.le_trans hB6.size hb)),by
        rw [(HFT.out j hjn HPJ.out).1,HS.out,HF.out,HNX.out _ rfl,HKID.out]
        exact hNT.s⟩)
       clear hB6 hB7 hNT hb7 X7 hf7 hl7 hb8 hs8 C4 X6 F6 Z6
       have hB5:=hB8
       clear hB8
       go_upto_region 16 with fail
       have NI5:=Lib.hid (NI.out.below hB5)
       have hsz:=NI5.out.b.size
       have hkx:some Bx≠kv.ownBlock:=fun e=>by have:=(NI.out.k.lt Bx e.symm).2;omega
       have hlx:some Bx≠lv.ownBlock:=fun e=>by have:=(NI.out.l.lt Bx e.symm).2;omega
       have hko:some Bo≠kv.ownBlock:=fun e=>by have:=(NI.out.k.lt Bo e.symm).1;have:=NW.out.l.2.2.2.2.1;omega
       have hlo:some Bo≠lv.ownBlock:=fun e=>by have:=(NI.out.l.lt Bo e.symm).1;have:=NW.out.l.2.2.2.2.1;omega
       have hkv:some Bv≠kv.ownBlock:=fun e=>by have:=(NI.out.k.lt Bv e.symm).1;have:=NW.out.l.2.1;omega
       have hlv:some Bv≠lv.ownBlock:=fun e=>by have:=(NI.out.l.lt Bv e.symm).1;have:=NW.out.l.2.1;omega
       have hkb2:some kb≠kv.ownBlock:=fun e=>by have:=(NI.out.k.lt kb e.symm).1;have:=NW.out.b.size;omega
       have hlb2:some kb≠lv.ownBlock:=fun e=>by have:=(NI.out.l.lt kb e.symm).1;have:=NW.out.b.size;omega
       have hcn:=cnt_le (p:=p) j
       obtain ⟨cn,hcn2⟩:∃ x,cntN p j=x:=⟨_,rfl⟩
       rw [hcn2] at NI5 hcn
       have hS0:NrS2 w8.drew Bx Bo Bv kb (ko+j) kindt negt Vt bitst textt aLt nLt cLt aKt nKt cKt lv kv (.slice (some ⟨kb,ko,none⟩) nK cK) s:=NrS2.below ⟨⟨X8.out,NI5.out.o.c.all.2.2.2.2.2.2.2.2.1,NI5.out.o.c.all.2.2.2.2.2.2.2.2.2⟩,(Vr.out.below hB5).all.2.2.2.2.2.2.2.2.2,keep_cell hB5 HKC.out⟩ (Below.refl _ _).drew
       refine wp_region_late (fun w'=>NrS2 w' Bx Bo Bv kb (ko+j) kindt negt Vt bitst textt aLt nLt cLt aKt nKt cKt lv kv (.slice (some ⟨kb,ko,none⟩) nK cK) s) (fun i=>decide (15≤i)) z0a hS0 (fun hHeld=>?_)
       clear hS0
       refine wpAnyT_take (i:=0) (v:=?_) rfl z0a z0a z0a z0a z0a (fun _ _ _ h=>h) (Or.inl ⟨by rfl,?_⟩) hHeld ?_
       rotate_left
       (focus (intro wq hSw;obtain ⟨_,_,_,_,_,_,_,_,_,_,_,_,_,_⟩:=hSw.all;go_simp;(try with_reducible rfl)))
       simp only [Act.put,List.setIfInBounds_toArray,List.set_cons_zero,List.set_cons_succ,List.getElem_toArray,List.getElem_cons_zero]
       refine wpAnyT_take (i:=1) (v:=?_) rfl z0a z0a z0a z0a z0a (fun _ _ _ h=>h) (Or.inl ⟨by rfl,?_⟩) hHeld ?_
       rotate_left
       (focus (intro wq hSw;obtain ⟨_,_,_,_,_,_,_,_,_,_,_,_,_,_⟩:=hSw.all;go_simp;(try with_reducible rfl)))
       refine za6zs2 ?_
       refine wpAnyT_take (i:=2) (v:=?_) rfl z0a z0a z0a z0a z0a (fun _ _ _ h=>h) (Or.inl ⟨by rfl,?_⟩) hHeld ?_
       rotate_left
       (focus (intro wq hSw;obtain ⟨_,_,_,_,_,_,_,_,_,_,_,_,_,_⟩:=hSw.all;go_simp;(try with_reducible rfl)))
       refine za6zs2 ?_
       refine wpAnyT_take (i:=3) (v:=?_) rfl z0a z0a z0a z0a z0a (fun _ _ _ h=>h) (Or.inl ⟨by rfl,?_⟩) hHeld ?_
       rotate_left
       (focus (intro wq hSw;obtain ⟨_,_,_,_,_,_,_,_,_,_,_,_,_,_⟩:=hSw.all;go_simp;(try with_reducible rfl)))
       refine za6zs2 ?_
       refine wpAnyT_take (i:=4) (v:=?_) rfl z0a z0a z0a z0a z0a (fun _ _ _ h=>h) (Or.inl ⟨by rfl,?_⟩) hHeld ?_
       rotate_left
       (focus (intro wq hSw;obtain ⟨_,_,_,_,_,_,_,_,_,_,_,_,_,_⟩:=hSw.all;go_simp;(try with_reducible rfl)))
       refine za6zs2 ?_
       refine wpAnyT_take (i:=5) (v:=?_) rfl z0a z0a z0a z0a z0a (fun _ _ _ h=>h) (Or.inl ⟨by rfl,?_⟩) hHeld ?_
       rotate_left
       (focus (intro wq hSw;obtain ⟨_,_,_,_,_,_,_,_,_,_,_,_,_,_⟩:=hSw.all;go_simp;(try with_reducible rfl)))
       refine za6zs2 ?_
       refine wpAnyT_take (i:=6) (v:=?_) rfl z0a z0a z0a z0a z0a (fun _ _ _ h=>h) (Or.inl ⟨by rfl,?_⟩) hHeld ?_
       rotate_left
       (focus (intro wq hSw;obtain ⟨_,_,_,_,_,_,_,_,_,_,_,_,_,_⟩:=hSw.all;go_simp;(try with_reducible rfl)))
       refine za6zs2 ?_
       refine wpAnyT_take (i:=9) (v:=?_) rfl z0a z0a z0a z0a z0a (fun _ _ _ h=>h) (Or.inl ⟨by rfl,?_⟩) hHeld ?_
       rotate_left
       (focus (intro wq hSw;obtain ⟨_,_,_,_,_,_,_,_,_,_,_,_,_,_⟩:=hSw.all;go_simp;(try with_reducible rfl)))
       refine za6zs2 ?_
       refine wpAnyT_take (i:=10) (v:=?_) rfl z0a z0a z0a z0a z0a (fun _ _ _ h=>h) (Or.inl ⟨by rfl,?_⟩) hHeld ?_
       rotate_left
       (focus (intro wq hSw;obtain ⟨_,_,_,_,_,_,_,_,_,_,_,_,_,_⟩:=hSw.all;go_simp;(try with_reducible rfl)))
       refine za6zs2 ?_
       refine wpAnyT_take (i:=11) (v:=?_) rfl z0a z0a z0a z0a z0a (fun _ _ _ h=>h) (Or.inl ⟨by rfl,?_⟩) hHeld ?_
       rotate_left
       (focus (intro wq hSw;obtain ⟨_,_,_,_,_,_,_,_,_,_,_,_,_,_⟩:=hSw.all;go_simp;(try with_reducible rfl)))
       refine za6zs2 ?_
       refine wpAnyT_ready (rs:=[7,12]) z0a z0f ?_
       refine AllReadyT.cons rfl (fun K hK=>?_) (AllReadyT.cons rfl (fun K hK=>?_) AllReadyT.nil)
       ·go_simp
        refine hK.out _ _ (fun _=>hHeld.below (below_alloc (Below.refl _ _) _)) (fun hN=>?_)
        clear hK K
        replace hHeld:=hN rfl
        clear hN
        refine za6zs1 ?_
        refine wpAnyT_ready (rs:=[8,12]) z0a z0f ?_
        refine AllReadyT.cons rfl (fun K hK=>?_) (AllReadyT.cons rfl (fun K hK=>?_) AllReadyT.nil)
        ·refine step_append_at rfl (.tmp 109) (.tmp 115) 29 rfl W.heap.size 9 iS (.string ⟨#[]⟩) 1 16 Tryz.underlying29 hiS hsS0 hsS1 hsS2 rfl z0e kv cn (rowK fK cn) z0d (rows_below NI5.out.k (show Below w8.heap.size w8 _ from zb2)) ⟨w8.heap.size,0,none⟩ 1 1 [.string s] z0d rfl (news_one z0z) oneC_str z0k z0c (Nat.le_trans hsz (show Below w8.heap.size w8 _ from zb2).size) ?_
         intro kv1 wa own1 hg1 hn1
         obtain ⟨gk,ck,rfl⟩:=own_lit own1 z0c
         refine hK.out _ _ (fun _=>hHeld.grown hg1 hkx hko hkv hkb2) (fun _=>?_)
         clear hK K
         have HS1:=hHeld.grown hg1 hkx hko hkv hkb2
         have hA:=(show Below w8.heap.size w8 (w8.drew.alloc (.cells #[.string s] 9)) from zb2)
         have OL1:=(rows_below NI5.out.l hA).kept hg1 (rows_ne (rows_below NI5.out.l hA) (rows_below NI5.out.k hA) z0e)
         clear hHeld
         have hHeld:=HS1
         clear HS1
         refine za6zs1 ?_
         refine wpAnyT_take (i:=14) (v:=?_) rfl z0a z0a z0a z0a z0a (fun _ _ _ h=>h) (Or.inl ⟨by rfl,?_⟩) hHeld ?_
         rotate_left
         (focus (intro wq hSw;obtain ⟨_,_,_,_,_,_,_,_,_,_,_,_,_,_⟩:=hSw.all;go_simp;(try with_reducible rfl)))
         refine za6zs2 ?_
         refine wpAnyT_ready (rs:=[12]) z0a z0f ?_
         refine AllReadyT.cons rfl (fun K hK=>?_) AllReadyT.nil
         go_simp
         refine hK.out _ _ (fun _=>hHeld.below (below_alloc (Below.refl _ _) _)) (fun hN=>?_)
         clear hK K
         replace hHeld:=hN rfl
         clear hN
         refine za6zs1 ?_
         refine wpAnyT_ready (rs:=[13]) z0a z0f ?_
         refine AllReadyT.cons rfl (fun K hK=>?_) AllReadyT.nil
         refine step_append_at rfl (.tmp 118) (.tmp 120) 28 rfl W.heap.size 31 iV (.agg #[.int .i64 0,.bool false,.int .u64 0,.int .u64 0,.int .u64 0,.int .u64 0,.int .u64 0,.string ⟨#[]⟩,.slice none 0 0,.slice none 0 0]) 10 120 Tryz.underlying28 hiV hvV0 hvV1 hvV2 rfl z0e lv cn (rowV t cn) z0d (rows_below OL1 (show Below wa.heap.size wa _ from zb2)) ⟨wa.heap.size,0,none⟩ 1 1 (VT.cells (.mk kindt negt Vt bitst textt aLt nLt cLt kidst aKt nKt cKt keyst)) z0d rfl (news_ten (show VBx (wa.alloc (.cells #[.int .i64 kindt,.bool negt,.int .u64 (lm Vt 0:Nat),.int .u64 (lm Vt 1:Nat),.int .u64 (lm Vt 2:Nat),.int .u64 (lm Vt 3:Nat),.int .u64 (bitst:Nat),.string textt,.slice aLt nLt cLt,.slice aKt nKt cKt] 31)) wa.heap.size kindt negt Vt bitst textt aLt nLt cLt aKt nKt cKt from ⟨by simp [go_sem]⟩)) (cells_one _) z0k z0c (Nat.le_trans (Nat.le_trans hsz hA.size) (Nat.le_trans hg1.size (show Below wa.heap.size wa _ from zb2).size)) ?_
         intro lv1 w6 own2 hg2 hn2
         obtain ⟨gl,cl,rfl⟩:=own_lit own2 z0c
         refine hK.out _ _ (fun _=>hHeld.grown hg2 hlx hlo hlv hlb2) (fun _=>?_)
         clear hK K
         have AP:=Lib.hid (ap2_of hA hg1 hn1 own1 (show Below wa.heap.size wa (wa.alloc (.cells #[.int .i64 kindt,.bool negt,.int .u64 (lm Vt 0:Nat),.int .u64 (lm Vt 1:Nat),.int .u64 (lm Vt 2:Nat),.int .u64 (lm Vt 3:Nat),.int .u64 (bitst:Nat),.string textt,.slice aLt nLt cLt,.slice aKt nKt cKt] 31)) from zb2) hg2 hn2 own2 (rows_below OL1 (show Below wa.heap.size wa (wa.alloc (.cells #[.int .i64 kindt,.bool negt,.int .u64 (lm Vt 0:Nat),.int .u64 (lm Vt 1:Nat),.int .u64 (lm Vt 2:Nat),.int .u64 (lm Vt 3:Nat),.int .u64 (bitst:Nat),.string textt,.slice aLt nLt cLt,.slice aKt nKt cKt] 31)) from zb2)))
         exact za6zk1
        ·go_simp
         refine hK.out _ _ (fun _=>hHeld.below (below_alloc (Below.refl _ _) _)) (fun hN=>?_)
         clear hK K
         replace hHeld:=hN rfl
         clear hN
         refine za6zs1 ?_
         refine wpAnyT_ready (rs:=[8]) z0a z0f ?_
         refine AllReadyT.cons rfl (fun K hK=>?_) AllReadyT.nil
         refine step_append_at rfl (.tmp 109) (.tmp 115) 29 rfl W.heap.size 9 iS (.string ⟨#[]⟩) 1 16 Tryz.underlying29 hiS hsS0 hsS1 hsS2 rfl z0e kv cn (rowK fK cn) z0d (rows_below NI5.out.k (show Below w8.heap.size w8 _ from zb2)) ⟨w8.heap.size,0,none⟩ 1 1 [.string s] z0d rfl (news_one z0z) oneC_str z0k z0c (Nat.le_trans hsz (show Below w8.heap.size w8 _ from zb2).size) ?_
         intro kv1 wa own1 hg1 hn1
         obtain ⟨gk,ck,rfl⟩:=own_lit own1 z0c
         refine hK.out _ _ (fun _=>hHeld.grown hg1 hkx hko hkv hkb2) (fun _=>?_)
         clear hK K
         have HS1:=hHeld.grown hg1 hkx hko hkv hkb2
         have hA:=(show Below w8.heap.size w8 ((w8.drew.alloc (.cells #[.string s] 9)).alloc (.cells #[.int .i64 kindt,.bool negt,.int .u64 (lm Vt 0:Nat),.int .u64 (lm Vt 1:Nat),.int .u64 (lm Vt 2:Nat),.int .u64 (lm Vt 3:Nat),.int .u64 (bitst:Nat),.string textt,.slice aLt nLt cLt,.slice aKt nKt cKt] 31)) from zb2)
         have OL1:=(rows_below NI5.out.l hA).kept hg1 (rows_ne (rows_below NI5.out.l hA) (rows_below NI5.out.k hA) z0e)
         have XV1:VBx wa (w8.heap.size+1) kindt negt Vt bitst textt aLt nLt cLt aKt nKt cKt:=VBx.same (show VBx ((w8.drew.alloc (.cells #[.string s] 9)).alloc (.cells #[.int .i64 kindt,.bool negt,.int .u64 (lm Vt 0:Nat),.int .u64 (lm Vt 1:Nat),.int .u64 (lm Vt 2:Nat),.int .u64 (lm Vt 3:Nat),.int .u64 (bitst:Nat),.string textt,.slice aLt nLt cLt,.slice aKt nKt cKt] 31)) (w8.heap.size+1) kindt negt Vt bitst textt aLt nLt cLt aKt nKt cKt from ⟨by simp [go_sem]⟩) (hg1.block (w8.heap.size+1) (by simp <;> omega) (fun e=>by have:=(NI5.out.k.lt _ e.symm).2;omega))
         clear hHeld
         have hHeld:=HS1
         clear HS1
         refine za6zs1 ?_
         refine wpAnyT_take (i:=14) (v:=?_) rfl z0a z0a z0a z0a z0a (fun _ _ _ h=>h) (Or.inl ⟨by rfl,?_⟩) hHeld ?_
         rotate_left
         (focus (intro wq hSw;obtain ⟨_,_,_,_,_,_,_,_,_,_,_,_,_,_⟩:=hSw.all;go_simp;(try with_reducible rfl)))
         refine za6zs2 ?_
         refine wpAnyT_ready (rs:=[13]) z0a z0f ?_
         refine AllReadyT.cons rfl (fun K hK=>?_) AllReadyT.nil
         refine step_append_at rfl (.tmp 118) (.tmp 120) 28 rfl W.heap.size 31 iV (.agg #[.int .i64 0,.bool false,.int .u64 0,.int .u64 0,.int .u64 0,.int .u64 0,.int .u64 0,.string ⟨#[]⟩,.slice none 0 0,.slice none 0 0]) 10 120 Tryz.underlying28 hiV hvV0 hvV1 hvV2 rfl z0e lv cn (rowV t cn) z0d (rows_below OL1 (show Below wa.heap.size wa _ from zb2)) ⟨w8.heap.size+1,0,none⟩ 1 1 (VT.cells (.mk kindt negt Vt bitst textt aLt nLt cLt kidst aKt nKt cKt keyst)) z0d rfl (news_ten XV1) (cells_one _) z0k z0c (Nat.le_trans (Nat.le_trans hsz hA.size) (Nat.le_trans hg1.size (show Below wa.heap.size wa _ from zb2).size)) ?_
         intro lv1 w6 own2 hg2 hn2
         obtain ⟨gl,cl,rfl⟩:=own_lit own2 z0c
         refine hK.out _ _ (fun _=>hHeld.grown hg2 hlx hlo hlv hlb2) (fun _=>?_)
         clear hK K
         have AP:=Lib.hid (ap2_of hA hg1 hn1 own1 (show Below wa.heap.size wa wa from zb2) hg2 hn2 own2 (rows_below OL1 (show Below wa.heap.size wa wa from zb2)))
         exact za6zk1
       ·go_simp
        refine hK.out _ _ (fun _=>hHeld.below (below_alloc (Below.refl _ _) _)) (fun hN=>?_)
        clear hK K
        replace hHeld:=hN rfl
        clear hN
        refine za6zs1 ?_
        refine wpAnyT_ready (rs:=[7]) z0a z0f ?_
        refine AllReadyT.cons rfl (fun K hK=>?_) AllReadyT.nil
        go_simp
        refine hK.out _ _ (fun _=>hHeld.below (below_alloc (Below.refl _ _) _)) (fun hN=>?_)
        clear hK K
        replace hHeld:=hN rfl
        clear hN
        refine za6zs1 ?_
        refine wpAnyT_ready (rs:=[8]) z0a z0f ?_
        refine AllReadyT.cons rfl (fun K hK=>?_) AllReadyT.nil
        refine step_append_at rfl (.tmp 109) (.tmp 115) 29 rfl W.heap.size 9 iS (.string ⟨#[]⟩) 1 16 Tryz.underlying29 hiS hsS0 hsS1 hsS2 rfl z0e kv cn (rowK fK cn) z0d (rows_below NI5.out.k (show Below w8.heap.size w8 _ from zb2)) ⟨w8.heap.size+1,0,none⟩ 1 1 [.string s] z0d rfl (news_one z0z) oneC_str z0k z0c (Nat.le_trans hsz (show Below w8.heap.size w8 _ from zb2).size) ?_
        intro kv1 wa own1 hg1 hn1
        obtain ⟨gk,ck,rfl⟩:=own_lit own1 z0c
        refine hK.out _ _ (fun _=>hHeld.grown hg1 hkx hko hkv hkb2) (fun _=>?_)
        clear hK K
        have HS1:=hHeld.grown hg1 hkx hko hkv hkb2
        have hA:=(show Below w8.heap.size w8 ((w8.drew.alloc (.cells #[.int .i64 kindt,.bool negt,.int .u64 (lm Vt 0:Nat),.int .u64 (lm Vt 1:Nat),.int .u64 (lm Vt 2:Nat),.int .u64 (lm Vt 3:Nat),.int .u64 (bitst:Nat),.string textt,.slice aLt nLt cLt,.slice aKt nKt cKt] 31)).alloc (.cells #[.string s] 9)) from zb2)
        have OL1:=(rows_below NI5.out.l hA).kept hg1 (rows_ne (rows_below NI5.out.l hA) (rows_below NI5.out.k hA) z0e)
        have XV1:VBx wa w8.heap.size kindt negt Vt bitst textt aLt nLt cLt aKt nKt cKt:=VBx.same (show VBx ((w8.drew.alloc (.cells #[.int .i64 kindt,.bool negt,.int .u64 (lm Vt 0:Nat),.int .u64 (lm Vt 1:Nat),.int .u64 (lm Vt 2:Nat),.int .u64 (lm Vt 3:Nat),.int .u64 (bitst:Nat),.string textt,.slice aLt nLt cLt,.slice aKt nKt cKt] 31)).alloc (.cells #[.string s] 9)) w8.heap.size kindt negt Vt bitst textt aLt nLt cLt aKt nKt cKt from ⟨by simp [go_sem]⟩) (hg1.block w8.heap.size (by simp <;> omega) (fun e=>by have:=(NI5.out.k.lt _ e.symm).2;omega))
        clear hHeld
        have hHeld:=HS1
        clear HS1
        refine za6zs1 ?_
        refine wpAnyT_take (i:=14) (v:=?_) rfl z0a z0a z0a z0a z0a (fun _ _ _ h=>h) (Or.inl ⟨by rfl,?_⟩) hHeld ?_
        rotate_left
        (focus (intro wq hSw;obtain ⟨_,_,_,_,_,_,_,_,_,_,_,_,_,_⟩:=hSw.all;go_simp;(try with_reducible rfl)))
        refine za6zs2 ?_
        refine wpAnyT_ready (rs:=[13]) z0a z0f ?_
        refine AllReadyT.cons rfl (fun K hK=>?_) AllReadyT.nil
        refine step_append_at rfl (.tmp 118) (.tmp 120) 28 rfl W.heap.size 31 iV (.agg #[.int .i64 0,.bool false,.int .u64 0,.int .u64 0,.int .u64 0,.int .u64 0,.int .u64 0,.string ⟨#[]⟩,.slice none 0 0,.slice none 0 0]) 10 120 Tryz.underlying28 hiV hvV0 hvV1 hvV2 rfl z0e lv cn (rowV t cn) z0d (rows_below OL1 (show Below wa.heap.size wa _ from zb2)) ⟨w8.heap.size,0,none⟩ 1 1 (VT.cells (.mk kindt negt Vt bitst textt aLt nLt cLt kidst aKt nKt cKt keyst)) z0d rfl (news_ten XV1) (cells_one _) z0k z0c (Nat.le_trans (Nat.le_trans hsz hA.size) (Nat.le_trans hg1.size (show Below wa.heap.size wa _ from zb2).size)) ?_
        intro lv1 w6 own2 hg2 hn2
        obtain ⟨gl,cl,rfl⟩:=own_lit own2 z0c
        refine hK.out _ _ (fun _=>hHeld.grown hg2 hlx hlo hlv hlb2) (fun _=>?_)
        clear hK K
        have AP:=Lib.hid (ap2_of hA hg1 hn1 own1 (show Below wa.heap.size wa wa from zb2) hg2 hn2 own2 (rows_below OL1 (show Below wa.heap.size wa wa from zb2)))
        exact za6zk1
  ·have hjn':j=nK:=by omega
   have i1:¬ (j:Int) < (nK:Int):=by omega
   have Rr:=Lib.hid (NW.out.r.same (NI.out.b.block Br NW.out.l.2.2.2.1 NW.out.n.2.2 NW.out.n.2.2))
   have hfr:=Rr.out.f
   have hlr:=Rr.out.lt
   rw [hjn'] at NI
   have hcn:=cnt_le (p:=p) nK
   obtain ⟨cn,hcn2⟩:∃ x,cntN p nK=x:=⟨_,rfl⟩
   rw [hcn2] at NI hcn
   have HR2:=Lib.hid (HRR.out)
   rw [hcn2] at HR2
   obtain ⟨aLo,cLo,e1,l1,l2,l3,l4⟩:=rowV_form NI.out.l fun i hi=>cells_len (NI.out.t i hi).1
   obtain ⟨aKo,cKo,e2,k1,k2,k3,k4⟩:=rowK_form NI.out.k fun i hi=>by
    have h1:=HFK.out i (by rw [hcn2];exact hi)
    rw [h1.1]
    obtain ⟨_,_,_,_,_,h2⟩:=key_lit HKY.out h1.2 (Below.refl _ _)
    exact h2
   subst e1 e2
   obtain ⟨_,_,_,_,_,_,_,_,_,_⟩:=NI.out.o.c.all
   obtain ⟨_,_,_,_,_,_,_,_,_,_⟩:=Rr.out.c.all
   have F1:=Lib.hid l3
   have F2:=Lib.hid k3
   clear l3 k3
   repeat any_goals (first|go_skip|go_guarded|go_step|go_upon|(simp only [];done))
   have hb:∀ b,b≠Br→(((((((((((wr.setCell ⟨Br,0,none⟩ (.int .i64 8)).setCell ⟨Br,1,none⟩ (.bool false)).setCell ⟨Br,2,none⟩ (.int .u64 0)).setCell ⟨Br,3,none⟩ (.int .u64 0)).setCell ⟨Br,4,none⟩ (.int .u64 0)).setCell ⟨Br,5,none⟩ (.int .u64 0)).setCell ⟨Br,6,none⟩ (.int .u64 0)).setCell ⟨Br,7,none⟩ (.string ⟨#[]⟩)).setCell ⟨Br,8,none⟩ (.slice aLo cn cLo)).setCell ⟨Br,9,none⟩ (.slice aKo cn cKo))).heap[b]? = wr.heap[b]? := fun b hb=>set10_block hb
   have hs10:wr.heap.size≤(((((((((((wr.setCell ⟨Br,0,none⟩ (.int .i64 8)).setCell ⟨Br,1,none⟩ (.bool false)).setCell ⟨Br,2,none⟩ (.int .u64 0)).setCell ⟨Br,3,none⟩ (.int .u64 0)).setCell ⟨Br,4,none⟩ (.int .u64 0)).setCell ⟨Br,5,none⟩ (.int .u64 0)).setCell ⟨Br,6,none⟩ (.int .u64 0)).setCell ⟨Br,7,none⟩ (.string ⟨#[]⟩)).setCell ⟨Br,8,none⟩ (.slice aLo cn cLo)).setCell ⟨Br,9,none⟩ (.slice aKo cn cKo))).heap.size:=by simp
   have hr0:w.heap.size≤Br:=NW.out.l.2.2.2.2.2.2
   have hr1:Br < W.heap.size:=NW.out.l.2.2.2.1
   have hin0:VT.In wr (.mk 8 false 0 0 ⟨#[]⟩ aLo cn cLo t aKo cn cKo fK):=⟨⟨by omega,by omega,by decide,by decide,Nat.zero_le _,l1,l2,k1,k2⟩,F1.out,fun i hi=>(NI.out.t i hi).1,F2.out⟩
   have hbk0:VT.Blk (fun b=>b < w.heap.size∨W.heap.size≤b) (.mk 8 false 0 0 ⟨#[]⟩ aLo cn cLo t aKo cn cKo fK):=⟨.inr fun ad e=>.inr (l4 ad e),.inr fun ad e=>.inr (k4 ad e),fun i hi=>(NI.out.t i hi).2.1.mono fun b h=>h.1⟩
   refine bodyPost_ret (v:=.agg #[.int .i64 8,.bool false,.int .u64 0,.int .u64 0,.int .u64 0,.int .u64 0,.int .u64 0,.string ⟨#[]⟩,.slice aLo cn cLo,.slice aKo cn cKo]) (by simp [results,Tryz.results19,go_sem, *]) rfl ⟨.mk 8 false 0 0 ⟨#[]⟩ aLo cn cLo t aKo cn cKo fK,by simp [lm_none],⟨hin0.kept hs10 (fun b _ h=>hb b z0c) hbk0,fun Q h0 h1=>⟨.inr fun ad e=>h1 _ (Nat.le_trans NW.out.b.size (l4 ad e)),.inr fun ad e=>h1 _ (Nat.le_trans NW.out.b.size (k4 ad e)),fun i hi=>(NI.out.t i hi).2.2.1 Q h0 h1⟩,?_⟩,zb2⟩
   rw [HR2.out]
   exact sim_mk.2 ⟨⟨rfl,rfl,rfl,rfl,rfl,rfl,rfl⟩,fun _ _=>rfl,fun i hi=>(NI.out.t i hi).2.2.2⟩
theorem rnorm_all (M:Nat→PM) (a:Option Addr) (n c:Nat) (hTy:Types M n) (hNS:NoScal M n) (hNB:NoBoth M n):∀ T:VT,RNrm M a n c T∧RNmd M a n c T∧∀ q,q < T.cnt→RNmd M a n c (T.sub q):=by
 intro T
 induction T with
 | nil=>exact ⟨fun _ _ _ _ h=>h.elim,fun _ _ _ _ h=>h.elim,fun _ h=>absurd h (Nat.not_lt_zero _)⟩
 | mk kind neg V bits text aL nL cL kids aK nK cK keys ih=>
  have h:=rnorm_mk M a n c hTy hNS hNB kind neg V bits text aL nL cL kids aK nK cK keys (fun i _=>(ih i).2.1) (fun i _=>(ih i).2.2)
  exact ⟨h,rnormed_mk M a n c hNS kind neg V bits text aL nL cL kids aK nK cK keys h,fun q _=>(ih q).2.1⟩
end Go.Proofs.YtfondldmmcmloaaGreatDoor
