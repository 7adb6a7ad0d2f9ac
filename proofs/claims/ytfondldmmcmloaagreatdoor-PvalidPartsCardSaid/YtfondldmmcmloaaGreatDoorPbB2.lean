/- PaW. -/
import Derived.Test.YtfondldmmcmloaaGreatDoorPbB1
set_option maxRecDepth 1000000
set_option maxHeartbeats 8000000
namespace Go.Proofs.YtfondldmmcmloaaGreatDoor
open Go Go.RowKit
theorem zb2zs1 {p q:Prop} (h:q) (e:q→p:=by intro hq;(try simp only [Act.put,List.setIfInBounds_toArray,List.set_cons_zero,List.set_cons_succ,List.getElem_toArray,List.getElem_cons_succ,List.getElem_cons_zero]);exact hq):p:=e h
end Go.Proofs.YtfondldmmcmloaaGreatDoor
namespace Go.Proofs.YtfondldmmcmloaaGreatDoor
open Go Go.RowKit
theorem wpAnyT_lit {P:Program} {md:Region.Mode} {ops:Array Oper} {Q:Exit→Act→World→Prop} {S:World→Prop} {T:Nat→Bool} {fuel fuel':Nat} {listed listed':Array Bool} {a:Act} {w:World} (hf:fuel=fuel') (hl:listed=listed') (k:wpAnyT P md ops Q S T fuel' listed' a w):wpAnyT P md ops Q S T fuel listed a w:=by
 subst hf hl
 exact k
theorem pa_fin {p:Prop} (h:p:=by
 refine zb2zs1 ?_
 refine zb2zs1 ?_
 refine wpAnyT_ready (rs:=[26]) z0a z0f ?_
 refine AllReadyT.cons rfl (fun KK hK=>?_) AllReadyT.nil
 obtain ⟨_,_,_,_,_,_,_,_,_,_⟩:=Z.out.c.all
 have hfz:=Z.out.f
 go_simp
 refine hK.out _ _ (fun h=>z0q) (fun _=>?_)
 clear hK KK
 refine zb2zs1 ?_
 refine wpAnyT_done z0a ?_ _
 refine NoPanic.normal ?_
 have R9:=Lib.hid (set10_rbx (v0:=.int .i64 8) (v1:=.bool false) (v2:=.int .u64 0) (v3:=.int .u64 0) (v4:=.int .u64 0) (v5:=.int .u64 0) (v6:=.int .u64 0) (v7:=.string ⟨#[]⟩) (v8:=.slice (some ⟨gl,0,none⟩) (k+(nK - (k+1))) cl) (v9:=.slice (some ⟨gk,0,none⟩) (k+(nK - (k+1))) ck) Z.out)
 have hB9:=set10_below (v0:=.int .i64 8) (v1:=.bool false) (v2:=.int .u64 0) (v3:=.int .u64 0) (v4:=.int .u64 0) (v5:=.int .u64 0) (v6:=.int .u64 0) (v7:=.string ⟨#[]⟩) (v8:=.slice (some ⟨gl,0,none⟩) (k+(nK - (k+1))) cl) (v9:=.slice (some ⟨gk,0,none⟩) (k+(nK - (k+1))) ck) hHeld hBw
 have RK9:=row_same (w':=((((((((((wq.setCell ⟨Bw,0,none⟩ (.int .i64 8)).setCell ⟨Bw,1,none⟩ (.bool false)).setCell ⟨Bw,2,none⟩ (.int .u64 0)).setCell ⟨Bw,3,none⟩ (.int .u64 0)).setCell ⟨Bw,4,none⟩ (.int .u64 0)).setCell ⟨Bw,5,none⟩ (.int .u64 0)).setCell ⟨Bw,6,none⟩ (.int .u64 0)).setCell ⟨Bw,7,none⟩ (.string ⟨#[]⟩)).setCell ⟨Bw,8,none⟩ (.slice (some ⟨gl,0,none⟩) (k+(nK - (k+1))) cl)).setCell ⟨Bw,9,none⟩ (.slice (some ⟨gk,0,none⟩) (k+(nK - (k+1))) ck))) RK.out (fun g h=>set10_block (fun c=>NK (by rw [← c];exact h.symm)))
 have RL9:=row_same (w':=((((((((((wq.setCell ⟨Bw,0,none⟩ (.int .i64 8)).setCell ⟨Bw,1,none⟩ (.bool false)).setCell ⟨Bw,2,none⟩ (.int .u64 0)).setCell ⟨Bw,3,none⟩ (.int .u64 0)).setCell ⟨Bw,4,none⟩ (.int .u64 0)).setCell ⟨Bw,5,none⟩ (.int .u64 0)).setCell ⟨Bw,6,none⟩ (.int .u64 0)).setCell ⟨Bw,7,none⟩ (.string ⟨#[]⟩)).setCell ⟨Bw,8,none⟩ (.slice (some ⟨gl,0,none⟩) (k+(nK - (k+1))) cl)).setCell ⟨Bw,9,none⟩ (.slice (some ⟨gk,0,none⟩) (k+(nK - (k+1))) ck))) RL.out (fun g h=>set10_block (fun c=>NL (by rw [← c];exact h.symm)))
 generalize ((((((((((wq.setCell ⟨Bw,0,none⟩ (.int .i64 8)).setCell ⟨Bw,1,none⟩ (.bool false)).setCell ⟨Bw,2,none⟩ (.int .u64 0)).setCell ⟨Bw,3,none⟩ (.int .u64 0)).setCell ⟨Bw,4,none⟩ (.int .u64 0)).setCell ⟨Bw,5,none⟩ (.int .u64 0)).setCell ⟨Bw,6,none⟩ (.int .u64 0)).setCell ⟨Bw,7,none⟩ (.string ⟨#[]⟩)).setCell ⟨Bw,8,none⟩ (.slice (some ⟨gl,0,none⟩) (k+(nK - (k+1))) cl)).setCell ⟨Bw,9,none⟩ (.slice (some ⟨gk,0,none⟩) (k+(nK - (k+1))) ck))=w9 at *
 have hW9:=below_trans hW8 hB9
 have hI9:∀ i,i < nK→(kids i).In w9:=fun i hi=>VT.In.below hW9 _ (HI.out i hi)
 have HT:=Lib.hid (but_in hk hI9 (fun i hi=>(HKc.out i hi).2) RK9 RL9)
 repeat any_goals (first|go_skip|go_guarded|go_step|go_upon|(simp only [];done))
 go_meet
 case rel=>exact ⟨Bw,gl,cl,gk,ck,rfl,R9,hB9,HT⟩):p:=h
theorem pa_end {p:Prop} (h:p:=by
 obtain ⟨gk,ck,rfl⟩:=IK
 obtain ⟨gl,cl,rfl⟩:=IL
 refine zb2zs1 ?_
 refine wpAnyT_take (i:=24) (v:=?_) rfl z0a z0a z0a z0a z0a (fun _ _ _ h=>h) (Or.inl ⟨by rfl,?_⟩) hHeld ?_
 rotate_left
 (focus (intro wq hSw;have hSw:Below w8.heap.size w8 wq:=hSw;go_simp;(try with_reducible rfl)))
 simp only [Act.put,List.setIfInBounds_toArray,List.set_cons_zero,List.set_cons_succ,List.getElem_toArray,List.getElem_cons_succ,List.getElem_cons_zero]
 exact pa_fin):p:=h
theorem pa_510 {p:Prop} (h:p:=by
 obtain ⟨gk,ck,rfl⟩:=IK
 obtain ⟨gl,cl,rfl⟩:=IL
 refine zb2zs1 ?_
 refine wpAnyT_take (i:=24) (v:=?_) rfl z0a z0a z0a z0a z0a (fun _ _ _ h=>h) (Or.inl ⟨by rfl,?_⟩) hHeld ?_
 rotate_left
 (focus (intro wq hSw;have hSw:Below w8.heap.size w8 wq:=hSw;go_simp;(try with_reducible rfl)))
 simp only [Act.put,List.setIfInBounds_toArray,List.set_cons_zero,List.set_cons_succ,List.getElem_toArray,List.getElem_cons_succ,List.getElem_cons_zero]
 refine wpAnyT_ready (rs:=[25]) z0a z0f ?_
 refine AllReadyT.cons rfl (fun KK hK=>?_) AllReadyT.nil
 go_simp
 have hA:Below wq.heap.size wq (wq.alloc (.cells #[.int .i64 0,.bool false,.int .u64 0,.int .u64 0,.int .u64 0,.int .u64 0,.int .u64 0,.string ⟨#[]⟩,.slice none 0 0,.slice none 0 0] 31)):=below_alloc (Below.refl _ _) _
 refine hK.out _ _ (fun _=>below_trans hHeld hA) (fun _=>?_)
 clear hK KK
 have NK:some wq.heap.size≠(Value.slice (some ⟨gk,0,none⟩) (k+(nK - (k+1))) ck).ownBlock:=fun h=>by have:=(RK.out.lt _ h.symm).2;omega
 have NL:some wq.heap.size≠(Value.slice (some ⟨gl,0,none⟩) (k+(nK - (k+1))) cl).ownBlock:=fun h=>by have:=(RL.out.lt _ h.symm).2;omega
 have RK2:=Lib.hid (rows_below RK.out hA)
 clear RK
 have RK:=RK2
 clear RK2
 have RL2:=Lib.hid (rows_below RL.out hA)
 clear RL
 have RL:=RL2
 clear RL2
 have Z:Hid (WBx (wq.alloc (.cells #[.int .i64 0,.bool false,.int .u64 0,.int .u64 0,.int .u64 0,.int .u64 0,.int .u64 0,.string ⟨#[]⟩,.slice none 0 0,.slice none 0 0] 31)) wq.heap.size (.int .i64 0) (.bool false) (.int .u64 0) (.int .u64 0) (.int .u64 0) (.int .u64 0) (.int .u64 0) (.string ⟨#[]⟩) (.slice none 0 0) (.slice none 0 0)):=Lib.hid ⟨⟨by simp [go_sem]⟩,fun j=>by simp [go_sem]⟩
 obtain ⟨Bw,hv⟩:∃ b,wq.heap.size=b:=⟨_,rfl⟩
 have hBw:w8.heap.size≤Bw:=by have:=hHeld.size;omega
 have hp:Value.pointer (some ⟨wq.heap.size,0,none⟩)=Value.pointer (some ⟨Bw,0,none⟩):=by rw [hv]
 rw [hp]
 rw [hv] at Z NK NL
 clear hp hv
 have hBq:Bw < (wq.alloc (.cells #[.int .i64 0,.bool false,.int .u64 0,.int .u64 0,.int .u64 0,.int .u64 0,.int .u64 0,.string ⟨#[]⟩,.slice none 0 0,.slice none 0 0] 31)).heap.size:=Z.out.lt
 have hH2:=below_trans hHeld hA
 clear hHeld hA
 obtain ⟨wq,hwq⟩:∃ x,wq.alloc (.cells #[.int .i64 0,.bool false,.int .u64 0,.int .u64 0,.int .u64 0,.int .u64 0,.int .u64 0,.string ⟨#[]⟩,.slice none 0 0,.slice none 0 0] 31)=x:=⟨_,rfl⟩
 rw [hwq] at hH2 RK RL Z hBq ⊢
 clear hwq
 have hHeld:=hH2
 clear hH2
 exact pa_fin):p:=h
theorem pa_411 {p:Prop} (h:p:=by
 refine zb2zs1 ?_
 refine wpAnyT_ready (rs:=[23]) z0a z0f ?_
 refine AllReadyT.cons rfl (fun KK hK=>?_) AllReadyT.nil
 refine step_append_at rfl (.tmp 87) (.tmp 92) 28 rfl w8.heap.size 31 iV (.agg #[.int .i64 0,.bool false,.int .u64 0,.int .u64 0,.int .u64 0,.int .u64 0,.int .u64 0,.string ⟨#[]⟩,.slice none 0 0,.slice none 0 0]) 10 120 Tryz.underlying28 hiV hvV0 hvV1 hvV2 rfl z0e vl k (rowV kids k) z0d RL.out ⟨bL,oL2,none⟩ (nK - (k+1)) (cL - (k+1)) (rowV (fun i=>kids (k+1+i)) (nK - (k+1))) z0d (rowV_len (kids:=fun i=>kids (k+1+i)) fun i hi=>h10 _ z0c) (SL2.out wq hHeld) (rowV_one _ _) z0k z0c hHeld.size ?_
 intro vn wn own2 hg2 hb2
 have hA:Below w8.heap.size w8 wn:=hHeld.grown hg2 hHeld.size (fun g h=>(RL.out.lt g h).1)
 refine hK.out _ _ (fun _=>hA) (fun _=>?_)
 clear hK KK
 have IL2:=in_block IL own2 hb2
 have RK2:=Lib.hid (RK.out.kept hg2 (rows_ne RK.out RL.out z0e))
 clear RK
 have RK:=RK2
 clear RK2
 have Z2:=Lib.hid (Z.out.same (hg2.block Bw hBq NL))
 clear Z
 have Z:=Z2
 clear Z2
 have NL2:some Bw≠vn.ownBlock:=by rcases hb2 with h|h;rw [h];exact NL;rw [h];intro c;injection c with c;omega
 clear NL
 have NL:=NL2
 clear NL2
 have hBl:Bw < wn.heap.size:=Z.out.lt
 clear hBq
 have hBq:=hBl
 clear hBl
 clear RL
 have RL:=Lib.hid own2
 clear own2
 clear IL
 have IL:=IL2
 clear IL2
 clear hHeld hg2 hb2
 have hHeld:=hA
 clear hA
 obtain ⟨wq,hwq⟩:∃ x,x=wn:=⟨_,rfl⟩
 obtain ⟨vl,hv⟩:∃ x,x=vn:=⟨_,rfl⟩
 subst hwq hv
 exact pa_end):p:=h
theorem pa_410 {p:Prop} (h:p:=by
 refine zb2zs1 ?_
 refine wpAnyT_ready (rs:=[23,25]) z0a z0f ?_
 refine AllReadyT.cons rfl (fun KK hK=>?_) (AllReadyT.cons rfl (fun KK hK=>?_) AllReadyT.nil)
 ·refine step_append_at rfl (.tmp 87) (.tmp 92) 28 rfl w8.heap.size 31 iV (.agg #[.int .i64 0,.bool false,.int .u64 0,.int .u64 0,.int .u64 0,.int .u64 0,.int .u64 0,.string ⟨#[]⟩,.slice none 0 0,.slice none 0 0]) 10 120 Tryz.underlying28 hiV hvV0 hvV1 hvV2 rfl z0e vl k (rowV kids k) z0d RL.out ⟨bL,oL2,none⟩ (nK - (k+1)) (cL - (k+1)) (rowV (fun i=>kids (k+1+i)) (nK - (k+1))) z0d (rowV_len (kids:=fun i=>kids (k+1+i)) fun i hi=>h10 _ z0c) (SL2.out wq hHeld) (rowV_one _ _) z0k z0c hHeld.size ?_
  intro vn wn own2 hg2 hb2
  have hA:Below w8.heap.size w8 wn:=hHeld.grown hg2 hHeld.size (fun g h=>(RL.out.lt g h).1)
  refine hK.out _ _ (fun _=>hA) (fun _=>?_)
  clear hK KK
  have IL2:=in_block IL own2 hb2
  have RK2:=Lib.hid (RK.out.kept hg2 (rows_ne RK.out RL.out z0e))
  clear RK
  have RK:=RK2
  clear RK2
  clear RL
  have RL:=Lib.hid own2
  clear own2
  clear IL
  have IL:=IL2
  clear IL2
  clear hHeld hg2 hb2
  have hHeld:=hA
  clear hA
  obtain ⟨wq,hwq⟩:∃ x,x=wn:=⟨_,rfl⟩
  obtain ⟨vl,hv⟩:∃ x,x=vn:=⟨_,rfl⟩
  subst hwq hv
  exact pa_510
 ·go_simp
  have hA:Below wq.heap.size wq (wq.alloc (.cells #[.int .i64 0,.bool false,.int .u64 0,.int .u64 0,.int .u64 0,.int .u64 0,.int .u64 0,.string ⟨#[]⟩,.slice none 0 0,.slice none 0 0] 31)):=below_alloc (Below.refl _ _) _
  refine hK.out _ _ (fun _=>below_trans hHeld hA) (fun _=>?_)
  clear hK KK
  have NK:some wq.heap.size≠vk.ownBlock:=fun h=>by have:=(RK.out.lt _ h.symm).2;omega
  have NL:some wq.heap.size≠vl.ownBlock:=fun h=>by have:=(RL.out.lt _ h.symm).2;omega
  have RK2:=Lib.hid (rows_below RK.out hA)
  clear RK
  have RK:=RK2
  clear RK2
  have RL2:=Lib.hid (rows_below RL.out hA)
  clear RL
  have RL:=RL2
  clear RL2
  have Z:Hid (WBx (wq.alloc (.cells #[.int .i64 0,.bool false,.int .u64 0,.int .u64 0,.int .u64 0,.int .u64 0,.int .u64 0,.string ⟨#[]⟩,.slice none 0 0,.slice none 0 0] 31)) wq.heap.size (.int .i64 0) (.bool false) (.int .u64 0) (.int .u64 0) (.int .u64 0) (.int .u64 0) (.int .u64 0) (.string ⟨#[]⟩) (.slice none 0 0) (.slice none 0 0)):=Lib.hid ⟨⟨by simp [go_sem]⟩,fun j=>by simp [go_sem]⟩
  obtain ⟨Bw,hv⟩:∃ b,wq.heap.size=b:=⟨_,rfl⟩
  have hBw:w8.heap.size≤Bw:=by have:=hHeld.size;omega
  have hp:Value.pointer (some ⟨wq.heap.size,0,none⟩)=Value.pointer (some ⟨Bw,0,none⟩):=by rw [hv]
  rw [hp]
  rw [hv] at Z NK NL
  clear hp hv
  have hBq:Bw < (wq.alloc (.cells #[.int .i64 0,.bool false,.int .u64 0,.int .u64 0,.int .u64 0,.int .u64 0,.int .u64 0,.string ⟨#[]⟩,.slice none 0 0,.slice none 0 0] 31)).heap.size:=Z.out.lt
  have hH2:=below_trans hHeld hA
  clear hHeld hA
  obtain ⟨wq,hwq⟩:∃ x,wq.alloc (.cells #[.int .i64 0,.bool false,.int .u64 0,.int .u64 0,.int .u64 0,.int .u64 0,.int .u64 0,.string ⟨#[]⟩,.slice none 0 0,.slice none 0 0] 31)=x:=⟨_,rfl⟩
  rw [hwq] at hH2 RK RL Z hBq ⊢
  clear hwq
  have hHeld:=hH2
  clear hH2
  exact pa_411):p:=h
theorem pa_311 {p:Prop} (h:p:=by
 refine zb2zs1 ?_
 refine wpAnyT_ready (rs:=[17]) z0a z0f ?_
 refine AllReadyT.cons rfl (fun KK hK=>?_) AllReadyT.nil
 refine step_append_at rfl (.tmp 82) (.tmp 86) 28 rfl w8.heap.size 31 iV (.agg #[.int .i64 0,.bool false,.int .u64 0,.int .u64 0,.int .u64 0,.int .u64 0,.int .u64 0,.string ⟨#[]⟩,.slice none 0 0,.slice none 0 0]) 10 120 Tryz.underlying28 hiV hvV0 hvV1 hvV2 rfl z0e vl 0 [] z0d RL.out ⟨bL,oL,none⟩ k cL (rowV kids k) z0d (rowV_len fun i hi=>h10 i z0c) (SL1.out wq hHeld) (rowV_one _ _) z0k z0c hHeld.size ?_
 intro vn wn own2 hg2 hb2
 have hA:Below w8.heap.size w8 wn:=hHeld.grown hg2 hHeld.size (fun g h=>(RL.out.lt g h).1)
 refine hK.out _ _ (fun _=>hA) (fun _=>?_)
 clear hK KK
 have IL2:=in_block IL own2 hb2
 have RK2:=Lib.hid (RK.out.kept hg2 (rows_ne RK.out RL.out z0e))
 clear RK
 have RK:=RK2
 clear RK2
 have Z2:=Lib.hid (Z.out.same (hg2.block Bw hBq NL))
 clear Z
 have Z:=Z2
 clear Z2
 have NL2:some Bw≠vn.ownBlock:=by rcases hb2 with h|h;rw [h];exact NL;rw [h];intro c;injection c with c;omega
 clear NL
 have NL:=NL2
 clear NL2
 have hBl:Bw < wn.heap.size:=Z.out.lt
 clear hBq
 have hBq:=hBl
 clear hBl
 rw [Nat.zero_add,List.nil_append] at own2
 rw [Nat.zero_add] at IL2
 clear RL
 have RL:=Lib.hid own2
 clear own2
 clear IL
 have IL:=IL2
 clear IL2
 clear hHeld hg2 hb2
 have hHeld:=hA
 clear hA
 obtain ⟨wq,hwq⟩:∃ x,x=wn:=⟨_,rfl⟩
 obtain ⟨vl,hv⟩:∃ x,x=vn:=⟨_,rfl⟩
 subst hwq hv
 exact pa_411):p:=h
theorem pa_310 {p:Prop} (h:p:=by
 refine zb2zs1 ?_
 refine wpAnyT_ready (rs:=[17,25]) z0a z0f ?_
 refine AllReadyT.cons rfl (fun KK hK=>?_) (AllReadyT.cons rfl (fun KK hK=>?_) AllReadyT.nil)
 ·refine step_append_at rfl (.tmp 82) (.tmp 86) 28 rfl w8.heap.size 31 iV (.agg #[.int .i64 0,.bool false,.int .u64 0,.int .u64 0,.int .u64 0,.int .u64 0,.int .u64 0,.string ⟨#[]⟩,.slice none 0 0,.slice none 0 0]) 10 120 Tryz.underlying28 hiV hvV0 hvV1 hvV2 rfl z0e vl 0 [] z0d RL.out ⟨bL,oL,none⟩ k cL (rowV kids k) z0d (rowV_len fun i hi=>h10 i z0c) (SL1.out wq hHeld) (rowV_one _ _) z0k z0c hHeld.size ?_
  intro vn wn own2 hg2 hb2
  have hA:Below w8.heap.size w8 wn:=hHeld.grown hg2 hHeld.size (fun g h=>(RL.out.lt g h).1)
  refine hK.out _ _ (fun _=>hA) (fun _=>?_)
  clear hK KK
  have IL2:=in_block IL own2 hb2
  have RK2:=Lib.hid (RK.out.kept hg2 (rows_ne RK.out RL.out z0e))
  clear RK
  have RK:=RK2
  clear RK2
  rw [Nat.zero_add,List.nil_append] at own2
  rw [Nat.zero_add] at IL2
  clear RL
  have RL:=Lib.hid own2
  clear own2
  clear IL
  have IL:=IL2
  clear IL2
  clear hHeld hg2 hb2
  have hHeld:=hA
  clear hA
  obtain ⟨wq,hwq⟩:∃ x,x=wn:=⟨_,rfl⟩
  obtain ⟨vl,hv⟩:∃ x,x=vn:=⟨_,rfl⟩
  subst hwq hv
  exact pa_410
 ·go_simp
  have hA:Below wq.heap.size wq (wq.alloc (.cells #[.int .i64 0,.bool false,.int .u64 0,.int .u64 0,.int .u64 0,.int .u64 0,.int .u64 0,.string ⟨#[]⟩,.slice none 0 0,.slice none 0 0] 31)):=below_alloc (Below.refl _ _) _
  refine hK.out _ _ (fun _=>below_trans hHeld hA) (fun _=>?_)
  clear hK KK
  have NK:some wq.heap.size≠vk.ownBlock:=fun h=>by have:=(RK.out.lt _ h.symm).2;omega
  have NL:some wq.heap.size≠vl.ownBlock:=fun h=>by have:=(RL.out.lt _ h.symm).2;omega
  have RK2:=Lib.hid (rows_below RK.out hA)
  clear RK
  have RK:=RK2
  clear RK2
  have RL2:=Lib.hid (rows_below RL.out hA)
  clear RL
  have RL:=RL2
  clear RL2
  have Z:Hid (WBx (wq.alloc (.cells #[.int .i64 0,.bool false,.int .u64 0,.int .u64 0,.int .u64 0,.int .u64 0,.int .u64 0,.string ⟨#[]⟩,.slice none 0 0,.slice none 0 0] 31)) wq.heap.size (.int .i64 0) (.bool false) (.int .u64 0) (.int .u64 0) (.int .u64 0) (.int .u64 0) (.int .u64 0) (.string ⟨#[]⟩) (.slice none 0 0) (.slice none 0 0)):=Lib.hid ⟨⟨by simp [go_sem]⟩,fun j=>by simp [go_sem]⟩
  obtain ⟨Bw,hv⟩:∃ b,wq.heap.size=b:=⟨_,rfl⟩
  have hBw:w8.heap.size≤Bw:=by have:=hHeld.size;omega
  have hp:Value.pointer (some ⟨wq.heap.size,0,none⟩)=Value.pointer (some ⟨Bw,0,none⟩):=by rw [hv]
  rw [hp]
  rw [hv] at Z NK NL
  clear hp hv
  have hBq:Bw < (wq.alloc (.cells #[.int .i64 0,.bool false,.int .u64 0,.int .u64 0,.int .u64 0,.int .u64 0,.int .u64 0,.string ⟨#[]⟩,.slice none 0 0,.slice none 0 0] 31)).heap.size:=Z.out.lt
  have hH2:=below_trans hHeld hA
  clear hHeld hA
  obtain ⟨wq,hwq⟩:∃ x,wq.alloc (.cells #[.int .i64 0,.bool false,.int .u64 0,.int .u64 0,.int .u64 0,.int .u64 0,.int .u64 0,.string ⟨#[]⟩,.slice none 0 0,.slice none 0 0] 31)=x:=⟨_,rfl⟩
  rw [hwq] at hH2 RK RL Z hBq ⊢
  clear hwq
  have hHeld:=hH2
  clear hH2
  exact pa_311):p:=h
theorem pa_301 {p:Prop} (h:p:=by
 refine zb2zs1 ?_
 refine wpAnyT_ready (rs:=[12]) z0a z0f ?_
 refine AllReadyT.cons rfl (fun KK hK=>?_) AllReadyT.nil
 go_simp
 have hA:Below wq.heap.size wq (wq.alloc (.cells #[] 31)):=below_alloc (Below.refl _ _) _
 refine hK.out _ _ (fun _=>below_trans hHeld hA) (fun _=>?_)
 clear hK KK
 have RK2:=Lib.hid (rows_below RK.out hA)
 clear RK
 have RK:=RK2
 clear RK2
 have Z2:=Lib.hid (Z.out.below hA)
 clear Z
 have Z:=Z2
 clear Z2
 have RL:(wq.alloc (.cells #[] 31)).ownsRow w8.heap.size 31 10 (.slice (some ⟨wq.heap.size,0,none⟩) 0 0) 0 []:=World.ownsRow_made wq #[] 0 hHeld.size z0e rfl
 have IL:InBlock (.slice (some ⟨wq.heap.size,0,none⟩) 0 0) 0:=⟨_,_,rfl⟩
 have NL:some Bw≠(Value.slice (some ⟨wq.heap.size,0,none⟩) 0 0).ownBlock:=fun h=>by injection h with h;have h:Bw=wq.heap.size:=h;omega
 obtain ⟨vl,hv⟩:∃ v,Value.slice (some ⟨wq.heap.size,0,none⟩) 0 0=v:=⟨_,rfl⟩
 rw [hv] at RL IL NL ⊢
 clear hv
 have RL2:=Lib.hid RL
 clear RL
 have RL:=RL2
 clear RL2
 have hBl:Bw < (wq.alloc (.cells #[] 31)).heap.size:=Z.out.lt
 clear hBq
 have hBq:=hBl
 clear hBl
 have hH2:=below_trans hHeld hA
 clear hHeld hA
 obtain ⟨wq,hwq⟩:∃ x,wq.alloc (.cells #[] 31)=x:=⟨_,rfl⟩
 rw [hwq] at hH2 RK RL Z hBq ⊢
 clear hwq
 have hHeld:=hH2
 clear hH2
 exact pa_311):p:=h
theorem pa_300 {p:Prop} (h:p:=by
 refine zb2zs1 ?_
 refine wpAnyT_ready (rs:=[12,25]) z0a z0f ?_
 refine AllReadyT.cons rfl (fun KK hK=>?_) (AllReadyT.cons rfl (fun KK hK=>?_) AllReadyT.nil)
 ·go_simp
  have hA:Below wq.heap.size wq (wq.alloc (.cells #[] 31)):=below_alloc (Below.refl _ _) _
  refine hK.out _ _ (fun _=>below_trans hHeld hA) (fun _=>?_)
  clear hK KK
  have RK2:=Lib.hid (rows_below RK.out hA)
  clear RK
  have RK:=RK2
  clear RK2
  have RL:(wq.alloc (.cells #[] 31)).ownsRow w8.heap.size 31 10 (.slice (some ⟨wq.heap.size,0,none⟩) 0 0) 0 []:=World.ownsRow_made wq #[] 0 hHeld.size z0e rfl
  have IL:InBlock (.slice (some ⟨wq.heap.size,0,none⟩) 0 0) 0:=⟨_,_,rfl⟩
  obtain ⟨vl,hv⟩:∃ v,Value.slice (some ⟨wq.heap.size,0,none⟩) 0 0=v:=⟨_,rfl⟩
  rw [hv] at RL IL ⊢
  clear hv
  have RL2:=Lib.hid RL
  clear RL
  have RL:=RL2
  clear RL2
  have hH2:=below_trans hHeld hA
  clear hHeld hA
  obtain ⟨wq,hwq⟩:∃ x,wq.alloc (.cells #[] 31)=x:=⟨_,rfl⟩
  rw [hwq] at hH2 RK RL ⊢
  clear hwq
  have hHeld:=hH2
  clear hH2
  exact pa_310
 ·go_simp
  have hA:Below wq.heap.size wq (wq.alloc (.cells #[.int .i64 0,.bool false,.int .u64 0,.int .u64 0,.int .u64 0,.int .u64 0,.int .u64 0,.string ⟨#[]⟩,.slice none 0 0,.slice none 0 0] 31)):=below_alloc (Below.refl _ _) _
  refine hK.out _ _ (fun _=>below_trans hHeld hA) (fun _=>?_)
  clear hK KK
  have NK:some wq.heap.size≠vk.ownBlock:=fun h=>by have:=(RK.out.lt _ h.symm).2;omega
  have RK2:=Lib.hid (rows_below RK.out hA)
  clear RK
  have RK:=RK2
  clear RK2
  have Z:Hid (WBx (wq.alloc (.cells #[.int .i64 0,.bool false,.int .u64 0,.int .u64 0,.int .u64 0,.int .u64 0,.int .u64 0,.string ⟨#[]⟩,.slice none 0 0,.slice none 0 0] 31)) wq.heap.size (.int .i64 0) (.bool false) (.int .u64 0) (.int .u64 0) (.int .u64 0) (.int .u64 0) (.int .u64 0) (.string ⟨#[]⟩) (.slice none 0 0) (.slice none 0 0)):=Lib.hid ⟨⟨by simp [go_sem]⟩,fun j=>by simp [go_sem]⟩
  obtain ⟨Bw,hv⟩:∃ b,wq.heap.size=b:=⟨_,rfl⟩
  have hBw:w8.heap.size≤Bw:=by have:=hHeld.size;omega
  have hp:Value.pointer (some ⟨wq.heap.size,0,none⟩)=Value.pointer (some ⟨Bw,0,none⟩):=by rw [hv]
  rw [hp]
  rw [hv] at Z NK
  clear hp hv
  have hBq:Bw < (wq.alloc (.cells #[.int .i64 0,.bool false,.int .u64 0,.int .u64 0,.int .u64 0,.int .u64 0,.int .u64 0,.string ⟨#[]⟩,.slice none 0 0,.slice none 0 0] 31)).heap.size:=Z.out.lt
  have hH2:=below_trans hHeld hA
  clear hHeld hA
  obtain ⟨wq,hwq⟩:∃ x,wq.alloc (.cells #[.int .i64 0,.bool false,.int .u64 0,.int .u64 0,.int .u64 0,.int .u64 0,.int .u64 0,.string ⟨#[]⟩,.slice none 0 0,.slice none 0 0] 31)=x:=⟨_,rfl⟩
  rw [hwq] at hH2 RK Z hBq ⊢
  clear hwq
  have hHeld:=hH2
  clear hH2
  exact pa_301):p:=h
theorem pa_211 {p:Prop} (h:p:=by
 refine zb2zs1 ?_
 refine wpAnyT_ready (rs:=[11]) z0a z0f ?_
 refine AllReadyT.cons rfl (fun KK hK=>?_) AllReadyT.nil
 refine step_append_at rfl (.tmp 75) (.tmp 80) 29 rfl w8.heap.size 9 iS (.string ⟨#[]⟩) 1 16 Tryz.underlying29 hiS hsS0 hsS1 hsS2 rfl z0e vk k (rowK keys k) z0d RK.out ⟨bK,oK2,none⟩ (nK - (k+1)) (cK - (k+1)) (rowK (fun i=>keys (k+1+i)) (nK - (k+1))) z0d (by rw [rowK_len,Nat.mul_one]) (SK2.out wq hHeld) (rowK_one _ _) z0k z0c hHeld.size ?_
 intro vn wn own2 hg2 hb2
 have hA:Below w8.heap.size w8 wn:=hHeld.grown hg2 hHeld.size (fun g h=>(RK.out.lt g h).1)
 refine hK.out _ _ (fun _=>hA) (fun _=>?_)
 clear hK KK
 have IK2:=in_block IK own2 hb2
 have RL2:=Lib.hid (RL.out.kept hg2 (rows_ne RL.out RK.out z0e))
 clear RL
 have RL:=RL2
 clear RL2
 have Z2:=Lib.hid (Z.out.same (hg2.block Bw hBq NK))
 clear Z
 have Z:=Z2
 clear Z2
 have NK2:some Bw≠vn.ownBlock:=by rcases hb2 with h|h;rw [h];exact NK;rw [h];intro c;injection c with c;omega
 clear NK
 have NK:=NK2
 clear NK2
 have hBl:Bw < wn.heap.size:=Z.out.lt
 clear hBq
 have hBq:=hBl
 clear hBl
 clear RK
 have RK:=Lib.hid own2
 clear own2
 clear IK
 have IK:=IK2
 clear IK2
 clear hHeld hg2 hb2
 have hHeld:=hA
 clear hA
 obtain ⟨wq,hwq⟩:∃ x,x=wn:=⟨_,rfl⟩
 obtain ⟨vk,hv⟩:∃ x,x=vn:=⟨_,rfl⟩
 subst hwq hv
 exact pa_311):p:=h
theorem pa_210 {p:Prop} (h:p:=by
 refine zb2zs1 ?_
 refine wpAnyT_ready (rs:=[11,25]) z0a z0f ?_
 refine AllReadyT.cons rfl (fun KK hK=>?_) (AllReadyT.cons rfl (fun KK hK=>?_) AllReadyT.nil)
 ·refine step_append_at rfl (.tmp 75) (.tmp 80) 29 rfl w8.heap.size 9 iS (.string ⟨#[]⟩) 1 16 Tryz.underlying29 hiS hsS0 hsS1 hsS2 rfl z0e vk k (rowK keys k) z0d RK.out ⟨bK,oK2,none⟩ (nK - (k+1)) (cK - (k+1)) (rowK (fun i=>keys (k+1+i)) (nK - (k+1))) z0d (by rw [rowK_len,Nat.mul_one]) (SK2.out wq hHeld) (rowK_one _ _) z0k z0c hHeld.size ?_
  intro vn wn own2 hg2 hb2
  have hA:Below w8.heap.size w8 wn:=hHeld.grown hg2 hHeld.size (fun g h=>(RK.out.lt g h).1)
  refine hK.out _ _ (fun _=>hA) (fun _=>?_)
  clear hK KK
  have IK2:=in_block IK own2 hb2
  have RL2:=Lib.hid (RL.out.kept hg2 (rows_ne RL.out RK.out z0e))
  clear RL
  have RL:=RL2
  clear RL2
  clear RK
  have RK:=Lib.hid own2
  clear own2
  clear IK
  have IK:=IK2
  clear IK2
  clear hHeld hg2 hb2
  have hHeld:=hA
  clear hA
  obtain ⟨wq,hwq⟩:∃ x,x=wn:=⟨_,rfl⟩
  obtain ⟨vk,hv⟩:∃ x,x=vn:=⟨_,rfl⟩
  subst hwq hv
  exact pa_310
 ·go_simp
  have hA:Below wq.heap.size wq (wq.alloc (.cells #[.int .i64 0,.bool false,.int .u64 0,.int .u64 0,.int .u64 0,.int .u64 0,.int .u64 0,.string ⟨#[]⟩,.slice none 0 0,.slice none 0 0] 31)):=below_alloc (Below.refl _ _) _
  refine hK.out _ _ (fun _=>below_trans hHeld hA) (fun _=>?_)
  clear hK KK
  have NK:some wq.heap.size≠vk.ownBlock:=fun h=>by have:=(RK.out.lt _ h.symm).2;omega
  have NL:some wq.heap.size≠vl.ownBlock:=fun h=>by have:=(RL.out.lt _ h.symm).2;omega
  have RK2:=Lib.hid (rows_below RK.out hA)
  clear RK
  have RK:=RK2
  clear RK2
  have RL2:=Lib.hid (rows_below RL.out hA)
  clear RL
  have RL:=RL2
  clear RL2
  have Z:Hid (WBx (wq.alloc (.cells #[.int .i64 0,.bool false,.int .u64 0,.int .u64 0,.int .u64 0,.int .u64 0,.int .u64 0,.string ⟨#[]⟩,.slice none 0 0,.slice none 0 0] 31)) wq.heap.size (.int .i64 0) (.bool false) (.int .u64 0) (.int .u64 0) (.int .u64 0) (.int .u64 0) (.int .u64 0) (.string ⟨#[]⟩) (.slice none 0 0) (.slice none 0 0)):=Lib.hid ⟨⟨by simp [go_sem]⟩,fun j=>by simp [go_sem]⟩
  obtain ⟨Bw,hv⟩:∃ b,wq.heap.size=b:=⟨_,rfl⟩
  have hBw:w8.heap.size≤Bw:=by have:=hHeld.size;omega
  have hp:Value.pointer (some ⟨wq.heap.size,0,none⟩)=Value.pointer (some ⟨Bw,0,none⟩):=by rw [hv]
  rw [hp]
  rw [hv] at Z NK NL
  clear hp hv
  have hBq:Bw < (wq.alloc (.cells #[.int .i64 0,.bool false,.int .u64 0,.int .u64 0,.int .u64 0,.int .u64 0,.int .u64 0,.string ⟨#[]⟩,.slice none 0 0,.slice none 0 0] 31)).heap.size:=Z.out.lt
  have hH2:=below_trans hHeld hA
  clear hHeld hA
  obtain ⟨wq,hwq⟩:∃ x,wq.alloc (.cells #[.int .i64 0,.bool false,.int .u64 0,.int .u64 0,.int .u64 0,.int .u64 0,.int .u64 0,.string ⟨#[]⟩,.slice none 0 0,.slice none 0 0] 31)=x:=⟨_,rfl⟩
  rw [hwq] at hH2 RK RL Z hBq ⊢
  clear hwq
  have hHeld:=hH2
  clear hH2
  exact pa_211):p:=h
theorem pa_201 {p:Prop} (h:p:=by
 refine zb2zs1 ?_
 refine wpAnyT_ready (rs:=[11,12]) z0a z0f ?_
 refine AllReadyT.cons rfl (fun KK hK=>?_) (AllReadyT.cons rfl (fun KK hK=>?_) AllReadyT.nil)
 ·refine step_append_at rfl (.tmp 75) (.tmp 80) 29 rfl w8.heap.size 9 iS (.string ⟨#[]⟩) 1 16 Tryz.underlying29 hiS hsS0 hsS1 hsS2 rfl z0e vk k (rowK keys k) z0d RK.out ⟨bK,oK2,none⟩ (nK - (k+1)) (cK - (k+1)) (rowK (fun i=>keys (k+1+i)) (nK - (k+1))) z0d (by rw [rowK_len,Nat.mul_one]) (SK2.out wq hHeld) (rowK_one _ _) z0k z0c hHeld.size ?_
  intro vn wn own2 hg2 hb2
  have hA:Below w8.heap.size w8 wn:=hHeld.grown hg2 hHeld.size (fun g h=>(RK.out.lt g h).1)
  refine hK.out _ _ (fun _=>hA) (fun _=>?_)
  clear hK KK
  have IK2:=in_block IK own2 hb2
  have Z2:=Lib.hid (Z.out.same (hg2.block Bw hBq NK))
  clear Z
  have Z:=Z2
  clear Z2
  have NK2:some Bw≠vn.ownBlock:=by rcases hb2 with h|h;rw [h];exact NK;rw [h];intro c;injection c with c;omega
  clear NK
  have NK:=NK2
  clear NK2
  have hBl:Bw < wn.heap.size:=Z.out.lt
  clear hBq
  have hBq:=hBl
  clear hBl
  clear RK
  have RK:=Lib.hid own2
  clear own2
  clear IK
  have IK:=IK2
  clear IK2
  clear hHeld hg2 hb2
  have hHeld:=hA
  clear hA
  obtain ⟨wq,hwq⟩:∃ x,x=wn:=⟨_,rfl⟩
  obtain ⟨vk,hv⟩:∃ x,x=vn:=⟨_,rfl⟩
  subst hwq hv
  exact pa_301
 ·go_simp
  have hA:Below wq.heap.size wq (wq.alloc (.cells #[] 31)):=below_alloc (Below.refl _ _) _
  refine hK.out _ _ (fun _=>below_trans hHeld hA) (fun _=>?_)
  clear hK KK
  have RK2:=Lib.hid (rows_below RK.out hA)
  clear RK
  have RK:=RK2
  clear RK2
  have Z2:=Lib.hid (Z.out.below hA)
  clear Z
  have Z:=Z2
  clear Z2
  have RL:(wq.alloc (.cells #[] 31)).ownsRow w8.heap.size 31 10 (.slice (some ⟨wq.heap.size,0,none⟩) 0 0) 0 []:=World.ownsRow_made wq #[] 0 hHeld.size z0e rfl
  have IL:InBlock (.slice (some ⟨wq.heap.size,0,none⟩) 0 0) 0:=⟨_,_,rfl⟩
  have NL:some Bw≠(Value.slice (some ⟨wq.heap.size,0,none⟩) 0 0).ownBlock:=fun h=>by injection h with h;have h:Bw=wq.heap.size:=h;omega
  obtain ⟨vl,hv⟩:∃ v,Value.slice (some ⟨wq.heap.size,0,none⟩) 0 0=v:=⟨_,rfl⟩
  rw [hv] at RL IL NL ⊢
  clear hv
  have RL2:=Lib.hid RL
  clear RL
  have RL:=RL2
  clear RL2
  have hBl:Bw < (wq.alloc (.cells #[] 31)).heap.size:=Z.out.lt
  clear hBq
  have hBq:=hBl
  clear hBl
  have hH2:=below_trans hHeld hA
  clear hHeld hA
  obtain ⟨wq,hwq⟩:∃ x,wq.alloc (.cells #[] 31)=x:=⟨_,rfl⟩
  rw [hwq] at hH2 RK RL Z hBq ⊢
  clear hwq
  have hHeld:=hH2
  clear hH2
  exact pa_211):p:=h
theorem pa_200 {p:Prop} (h:p:=by
 refine zb2zs1 ?_
 refine wpAnyT_ready (rs:=[11,12,25]) z0a z0f ?_
 refine AllReadyT.cons rfl (fun KK hK=>?_) (AllReadyT.cons rfl (fun KK hK=>?_) (AllReadyT.cons rfl (fun KK hK=>?_) AllReadyT.nil))
 ·refine step_append_at rfl (.tmp 75) (.tmp 80) 29 rfl w8.heap.size 9 iS (.string ⟨#[]⟩) 1 16 Tryz.underlying29 hiS hsS0 hsS1 hsS2 rfl z0e vk k (rowK keys k) z0d RK.out ⟨bK,oK2,none⟩ (nK - (k+1)) (cK - (k+1)) (rowK (fun i=>keys (k+1+i)) (nK - (k+1))) z0d (by rw [rowK_len,Nat.mul_one]) (SK2.out wq hHeld) (rowK_one _ _) z0k z0c hHeld.size ?_
  intro vn wn own2 hg2 hb2
  have hA:Below w8.heap.size w8 wn:=hHeld.grown hg2 hHeld.size (fun g h=>(RK.out.lt g h).1)
  refine hK.out _ _ (fun _=>hA) (fun _=>?_)
  clear hK KK
  have IK2:=in_block IK own2 hb2
  clear RK
  have RK:=Lib.hid own2
  clear own2
  clear IK
  have IK:=IK2
  clear IK2
  clear hHeld hg2 hb2
  have hHeld:=hA
  clear hA
  obtain ⟨wq,hwq⟩:∃ x,x=wn:=⟨_,rfl⟩
  obtain ⟨vk,hv⟩:∃ x,x=vn:=⟨_,rfl⟩
  subst hwq hv
  exact pa_300
 ·go_simp
  have hA:Below wq.heap.size wq (wq.alloc (.cells #[] 31)):=below_alloc (Below.refl _ _) _
  refine hK.out _ _ (fun _=>below_trans hHeld hA) (fun _=>?_)
  clear hK KK
  have RK2:=Lib.hid (rows_below RK.out hA)
  clear RK
  have RK:=RK2
  clear RK2
  have RL:(wq.alloc (.cells #[] 31)).ownsRow w8.heap.size 31 10 (.slice (some ⟨wq.heap.size,0,none⟩) 0 0) 0 []:=World.ownsRow_made wq #[] 0 hHeld.size z0e rfl
  have IL:InBlock (.slice (some ⟨wq.heap.size,0,none⟩) 0 0) 0:=⟨_,_,rfl⟩
  obtain ⟨vl,hv⟩:∃ v,Value.slice (some ⟨wq.heap.size,0,none⟩) 0 0=v:=⟨_,rfl⟩
  rw [hv] at RL IL ⊢
  clear hv
  have RL2:=Lib.hid RL
  clear RL
  have RL:=RL2
  clear RL2
  have hH2:=below_trans hHeld hA
  clear hHeld hA
  obtain ⟨wq,hwq⟩:∃ x,wq.alloc (.cells #[] 31)=x:=⟨_,rfl⟩
  rw [hwq] at hH2 RK RL ⊢
  clear hwq
  have hHeld:=hH2
  clear hH2
  exact pa_210
 ·go_simp
  have hA:Below wq.heap.size wq (wq.alloc (.cells #[.int .i64 0,.bool false,.int .u64 0,.int .u64 0,.int .u64 0,.int .u64 0,.int .u64 0,.string ⟨#[]⟩,.slice none 0 0,.slice none 0 0] 31)):=below_alloc (Below.refl _ _) _
  refine hK.out _ _ (fun _=>below_trans hHeld hA) (fun _=>?_)
  clear hK KK
  have NK:some wq.heap.size≠vk.ownBlock:=fun h=>by have:=(RK.out.lt _ h.symm).2;omega
  have RK2:=Lib.hid (rows_below RK.out hA)
  clear RK
  have RK:=RK2
  clear RK2
  have Z:Hid (WBx (wq.alloc (.cells #[.int .i64 0,.bool false,.int .u64 0,.int .u64 0,.int .u64 0,.int .u64 0,.int .u64 0,.string ⟨#[]⟩,.slice none 0 0,.slice none 0 0] 31)) wq.heap.size (.int .i64 0) (.bool false) (.int .u64 0) (.int .u64 0) (.int .u64 0) (.int .u64 0) (.int .u64 0) (.string ⟨#[]⟩) (.slice none 0 0) (.slice none 0 0)):=Lib.hid ⟨⟨by simp [go_sem]⟩,fun j=>by simp [go_sem]⟩
  obtain ⟨Bw,hv⟩:∃ b,wq.heap.size=b:=⟨_,rfl⟩
  have hBw:w8.heap.size≤Bw:=by have:=hHeld.size;omega
  have hp:Value.pointer (some ⟨wq.heap.size,0,none⟩)=Value.pointer (some ⟨Bw,0,none⟩):=by rw [hv]
  rw [hp]
  rw [hv] at Z NK
  clear hp hv
  have hBq:Bw < (wq.alloc (.cells #[.int .i64 0,.bool false,.int .u64 0,.int .u64 0,.int .u64 0,.int .u64 0,.int .u64 0,.string ⟨#[]⟩,.slice none 0 0,.slice none 0 0] 31)).heap.size:=Z.out.lt
  have hH2:=below_trans hHeld hA
  clear hHeld hA
  obtain ⟨wq,hwq⟩:∃ x,wq.alloc (.cells #[.int .i64 0,.bool false,.int .u64 0,.int .u64 0,.int .u64 0,.int .u64 0,.int .u64 0,.string ⟨#[]⟩,.slice none 0 0,.slice none 0 0] 31)=x:=⟨_,rfl⟩
  rw [hwq] at hH2 RK Z hBq ⊢
  clear hwq
  have hHeld:=hH2
  clear hH2
  exact pa_201):p:=h
theorem pa_111 {p:Prop} (h:p:=by
 refine zb2zs1 ?_
 refine wpAnyT_ready (rs:=[5]) z0a z0f ?_
 refine AllReadyT.cons rfl (fun KK hK=>?_) AllReadyT.nil
 refine step_append_at rfl (.tmp 70) (.tmp 74) 29 rfl w8.heap.size 9 iS (.string ⟨#[]⟩) 1 16 Tryz.underlying29 hiS hsS0 hsS1 hsS2 rfl z0e vk 0 [] z0d RK.out ⟨bK,oK,none⟩ k cK (rowK keys k) z0d (by rw [rowK_len,Nat.mul_one]) (SK1.out wq hHeld) (rowK_one _ _) z0k z0c hHeld.size ?_
 intro vn wn own2 hg2 hb2
 have hA:Below w8.heap.size w8 wn:=hHeld.grown hg2 hHeld.size (fun g h=>(RK.out.lt g h).1)
 refine hK.out _ _ (fun _=>hA) (fun _=>?_)
 clear hK KK
 have IK2:=in_block IK own2 hb2
 have RL2:=Lib.hid (RL.out.kept hg2 (rows_ne RL.out RK.out z0e))
 clear RL
 have RL:=RL2
 clear RL2
 have Z2:=Lib.hid (Z.out.same (hg2.block Bw hBq NK))
 clear Z
 have Z:=Z2
 clear Z2
 have NK2:some Bw≠vn.ownBlock:=by rcases hb2 with h|h;rw [h];exact NK;rw [h];intro c;injection c with c;omega
 clear NK
 have NK:=NK2
 clear NK2
 have hBl:Bw < wn.heap.size:=Z.out.lt
 clear hBq
 have hBq:=hBl
 clear hBl
 rw [Nat.zero_add,List.nil_append] at own2
 rw [Nat.zero_add] at IK2
 clear RK
 have RK:=Lib.hid own2
 clear own2
 clear IK
 have IK:=IK2
 clear IK2
 clear hHeld hg2 hb2
 have hHeld:=hA
 clear hA
 obtain ⟨wq,hwq⟩:∃ x,x=wn:=⟨_,rfl⟩
 obtain ⟨vk,hv⟩:∃ x,x=vn:=⟨_,rfl⟩
 subst hwq hv
 exact pa_211):p:=h
theorem pa_110 {p:Prop} (h:p:=by
 refine zb2zs1 ?_
 refine wpAnyT_ready (rs:=[5,25]) z0a z0f ?_
 refine AllReadyT.cons rfl (fun KK hK=>?_) (AllReadyT.cons rfl (fun KK hK=>?_) AllReadyT.nil)
 ·refine step_append_at rfl (.tmp 70) (.tmp 74) 29 rfl w8.heap.size 9 iS (.string ⟨#[]⟩) 1 16 Tryz.underlying29 hiS hsS0 hsS1 hsS2 rfl z0e vk 0 [] z0d RK.out ⟨bK,oK,none⟩ k cK (rowK keys k) z0d (by rw [rowK_len,Nat.mul_one]) (SK1.out wq hHeld) (rowK_one _ _) z0k z0c hHeld.size ?_
  intro vn wn own2 hg2 hb2
  have hA:Below w8.heap.size w8 wn:=hHeld.grown hg2 hHeld.size (fun g h=>(RK.out.lt g h).1)
  refine hK.out _ _ (fun _=>hA) (fun _=>?_)
  clear hK KK
  have IK2:=in_block IK own2 hb2
  have RL2:=Lib.hid (RL.out.kept hg2 (rows_ne RL.out RK.out z0e))
  clear RL
  have RL:=RL2
  clear RL2
  rw [Nat.zero_add,List.nil_append] at own2
  rw [Nat.zero_add] at IK2
  clear RK
  have RK:=Lib.hid own2
  clear own2
  clear IK
  have IK:=IK2
  clear IK2
  clear hHeld hg2 hb2
  have hHeld:=hA
  clear hA
  obtain ⟨wq,hwq⟩:∃ x,x=wn:=⟨_,rfl⟩
  obtain ⟨vk,hv⟩:∃ x,x=vn:=⟨_,rfl⟩
  subst hwq hv
  exact pa_210
 ·go_simp
  have hA:Below wq.heap.size wq (wq.alloc (.cells #[.int .i64 0,.bool false,.int .u64 0,.int .u64 0,.int .u64 0,.int .u64 0,.int .u64 0,.string ⟨#[]⟩,.slice none 0 0,.slice none 0 0] 31)):=below_alloc (Below.refl _ _) _
  refine hK.out _ _ (fun _=>below_trans hHeld hA) (fun _=>?_)
  clear hK KK
  have NK:some wq.heap.size≠vk.ownBlock:=fun h=>by have:=(RK.out.lt _ h.symm).2;omega
  have NL:some wq.heap.size≠vl.ownBlock:=fun h=>by have:=(RL.out.lt _ h.symm).2;omega
  have RK2:=Lib.hid (rows_below RK.out hA)
  clear RK
  have RK:=RK2
  clear RK2
  have RL2:=Lib.hid (rows_below RL.out hA)
  clear RL
  have RL:=RL2
  clear RL2
  have Z:Hid (WBx (wq.alloc (.cells #[.int .i64 0,.bool false,.int .u64 0,.int .u64 0,.int .u64 0,.int .u64 0,.int .u64 0,.string ⟨#[]⟩,.slice none 0 0,.slice none 0 0] 31)) wq.heap.size (.int .i64 0) (.bool false) (.int .u64 0) (.int .u64 0) (.int .u64 0) (.int .u64 0) (.int .u64 0) (.string ⟨#[]⟩) (.slice none 0 0) (.slice none 0 0)):=Lib.hid ⟨⟨by simp [go_sem]⟩,fun j=>by simp [go_sem]⟩
  obtain ⟨Bw,hv⟩:∃ b,wq.heap.size=b:=⟨_,rfl⟩
  have hBw:w8.heap.size≤Bw:=by have:=hHeld.size;omega
  have hp:Value.pointer (some ⟨wq.heap.size,0,none⟩)=Value.pointer (some ⟨Bw,0,none⟩):=by rw [hv]
  rw [hp]
  rw [hv] at Z NK NL
  clear hp hv
  have hBq:Bw < (wq.alloc (.cells #[.int .i64 0,.bool false,.int .u64 0,.int .u64 0,.int .u64 0,.int .u64 0,.int .u64 0,.string ⟨#[]⟩,.slice none 0 0,.slice none 0 0] 31)).heap.size:=Z.out.lt
  have hH2:=below_trans hHeld hA
  clear hHeld hA
  obtain ⟨wq,hwq⟩:∃ x,wq.alloc (.cells #[.int .i64 0,.bool false,.int .u64 0,.int .u64 0,.int .u64 0,.int .u64 0,.int .u64 0,.string ⟨#[]⟩,.slice none 0 0,.slice none 0 0] 31)=x:=⟨_,rfl⟩
  rw [hwq] at hH2 RK RL Z hBq ⊢
  clear hwq
  have hHeld:=hH2
  clear hH2
  exact pa_111):p:=h
theorem pa_101 {p:Prop} (h:p:=by
 refine zb2zs1 ?_
 refine wpAnyT_ready (rs:=[5,12]) z0a z0f ?_
 refine AllReadyT.cons rfl (fun KK hK=>?_) (AllReadyT.cons rfl (fun KK hK=>?_) AllReadyT.nil)
 ·refine step_append_at rfl (.tmp 70) (.tmp 74) 29 rfl w8.heap.size 9 iS (.string ⟨#[]⟩) 1 16 Tryz.underlying29 hiS hsS0 hsS1 hsS2 rfl z0e vk 0 [] z0d RK.out ⟨bK,oK,none⟩ k cK (rowK keys k) z0d (by rw [rowK_len,Nat.mul_one]) (SK1.out wq hHeld) (rowK_one _ _) z0k z0c hHeld.size ?_
  intro vn wn own2 hg2 hb2
  have hA:Below w8.heap.size w8 wn:=hHeld.grown hg2 hHeld.size (fun g h=>(RK.out.lt g h).1)
  refine hK.out _ _ (fun _=>hA) (fun _=>?_)
  clear hK KK
  have IK2:=in_block IK own2 hb2
  have Z2:=Lib.hid (Z.out.same (hg2.block Bw hBq NK))
  clear Z
  have Z:=Z2
  clear Z2
  have NK2:some Bw≠vn.ownBlock:=by rcases hb2 with h|h;rw [h];exact NK;rw [h];intro c;injection c with c;omega
  clear NK
  have NK:=NK2
  clear NK2
  have hBl:Bw < wn.heap.size:=Z.out.lt
  clear hBq
  have hBq:=hBl
  clear hBl
  rw [Nat.zero_add,List.nil_append] at own2
  rw [Nat.zero_add] at IK2
  clear RK
  have RK:=Lib.hid own2
  clear own2
  clear IK
  have IK:=IK2
  clear IK2
  clear hHeld hg2 hb2
  have hHeld:=hA
  clear hA
  obtain ⟨wq,hwq⟩:∃ x,x=wn:=⟨_,rfl⟩
  obtain ⟨vk,hv⟩:∃ x,x=vn:=⟨_,rfl⟩
  subst hwq hv
  exact pa_201
 ·go_simp
  have hA:Below wq.heap.size wq (wq.alloc (.cells #[] 31)):=below_alloc (Below.refl _ _) _
  refine hK.out _ _ (fun _=>below_trans hHeld hA) (fun _=>?_)
  clear hK KK
  have RK2:=Lib.hid (rows_below RK.out hA)
  clear RK
  have RK:=RK2
  clear RK2
  have Z2:=Lib.hid (Z.out.below hA)
  clear Z
  have Z:=Z2
  clear Z2
  have RL:(wq.alloc (.cells #[] 31)).ownsRow w8.heap.size 31 10 (.slice (some ⟨wq.heap.size,0,none⟩) 0 0) 0 []:=World.ownsRow_made wq #[] 0 hHeld.size z0e rfl
  have IL:InBlock (.slice (some ⟨wq.heap.size,0,none⟩) 0 0) 0:=⟨_,_,rfl⟩
  have NL:some Bw≠(Value.slice (some ⟨wq.heap.size,0,none⟩) 0 0).ownBlock:=fun h=>by injection h with h;have h:Bw=wq.heap.size:=h;omega
  obtain ⟨vl,hv⟩:∃ v,Value.slice (some ⟨wq.heap.size,0,none⟩) 0 0=v:=⟨_,rfl⟩
  rw [hv] at RL IL NL ⊢
  clear hv
  have RL2:=Lib.hid RL
  clear RL
  have RL:=RL2
  clear RL2
  have hBl:Bw < (wq.alloc (.cells #[] 31)).heap.size:=Z.out.lt
  clear hBq
  have hBq:=hBl
  clear hBl
  have hH2:=below_trans hHeld hA
  clear hHeld hA
  obtain ⟨wq,hwq⟩:∃ x,wq.alloc (.cells #[] 31)=x:=⟨_,rfl⟩
  rw [hwq] at hH2 RK RL Z hBq ⊢
  clear hwq
  have hHeld:=hH2
  clear hH2
  exact pa_111):p:=h
theorem pa_100 {p:Prop} (h:p:=by
 refine zb2zs1 ?_
 refine wpAnyT_ready (rs:=[5,12,25]) z0a z0f ?_
 refine AllReadyT.cons rfl (fun KK hK=>?_) (AllReadyT.cons rfl (fun KK hK=>?_) (AllReadyT.cons rfl (fun KK hK=>?_) AllReadyT.nil))
 ·refine step_append_at rfl (.tmp 70) (.tmp 74) 29 rfl w8.heap.size 9 iS (.string ⟨#[]⟩) 1 16 Tryz.underlying29 hiS hsS0 hsS1 hsS2 rfl z0e vk 0 [] z0d RK.out ⟨bK,oK,none⟩ k cK (rowK keys k) z0d (by rw [rowK_len,Nat.mul_one]) (SK1.out wq hHeld) (rowK_one _ _) z0k z0c hHeld.size ?_
  intro vn wn own2 hg2 hb2
  have hA:Below w8.heap.size w8 wn:=hHeld.grown hg2 hHeld.size (fun g h=>(RK.out.lt g h).1)
  refine hK.out _ _ (fun _=>hA) (fun _=>?_)
  clear hK KK
  have IK2:=in_block IK own2 hb2
  rw [Nat.zero_add,List.nil_append] at own2
  rw [Nat.zero_add] at IK2
  clear RK
  have RK:=Lib.hid own2
  clear own2
  clear IK
  have IK:=IK2
  clear IK2
  clear hHeld hg2 hb2
  have hHeld:=hA
  clear hA
  obtain ⟨wq,hwq⟩:∃ x,x=wn:=⟨_,rfl⟩
  obtain ⟨vk,hv⟩:∃ x,x=vn:=⟨_,rfl⟩
  subst hwq hv
  exact pa_200
 ·go_simp
  have hA:Below wq.heap.size wq (wq.alloc (.cells #[] 31)):=below_alloc (Below.refl _ _) _
  refine hK.out _ _ (fun _=>below_trans hHeld hA) (fun _=>?_)
  clear hK KK
  have RK2:=Lib.hid (rows_below RK.out hA)
  clear RK
  have RK:=RK2
  clear RK2
  have RL:(wq.alloc (.cells #[] 31)).ownsRow w8.heap.size 31 10 (.slice (some ⟨wq.heap.size,0,none⟩) 0 0) 0 []:=World.ownsRow_made wq #[] 0 hHeld.size z0e rfl
  have IL:InBlock (.slice (some ⟨wq.heap.size,0,none⟩) 0 0) 0:=⟨_,_,rfl⟩
  obtain ⟨vl,hv⟩:∃ v,Value.slice (some ⟨wq.heap.size,0,none⟩) 0 0=v:=⟨_,rfl⟩
  rw [hv] at RL IL ⊢
  clear hv
  have RL2:=Lib.hid RL
  clear RL
  have RL:=RL2
  clear RL2
  have hH2:=below_trans hHeld hA
  clear hHeld hA
  obtain ⟨wq,hwq⟩:∃ x,wq.alloc (.cells #[] 31)=x:=⟨_,rfl⟩
  rw [hwq] at hH2 RK RL ⊢
  clear hwq
  have hHeld:=hH2
  clear hH2
  exact pa_110
 ·go_simp
  have hA:Below wq.heap.size wq (wq.alloc (.cells #[.int .i64 0,.bool false,.int .u64 0,.int .u64 0,.int .u64 0,.int .u64 0,.int .u64 0,.string ⟨#[]⟩,.slice none 0 0,.slice none 0 0] 31)):=below_alloc (Below.refl _ _) _
  refine hK.out _ _ (fun _=>below_trans hHeld hA) (fun _=>?_)
  clear hK KK
  have NK:some wq.heap.size≠vk.ownBlock:=fun h=>by have:=(RK.out.lt _ h.symm).2;omega
  have RK2:=Lib.hid (rows_below RK.out hA)
  clear RK
  have RK:=RK2
  clear RK2
  have Z:Hid (WBx (wq.alloc (.cells #[.int .i64 0,.bool false,.int .u64 0,.int .u64 0,.int .u64 0,.int .u64 0,.int .u64 0,.string ⟨#[]⟩,.slice none 0 0,.slice none 0 0] 31)) wq.heap.size (.int .i64 0) (.bool false) (.int .u64 0) (.int .u64 0) (.int .u64 0) (.int .u64 0) (.int .u64 0) (.string ⟨#[]⟩) (.slice none 0 0) (.slice none 0 0)):=Lib.hid ⟨⟨by simp [go_sem]⟩,fun j=>by simp [go_sem]⟩
  obtain ⟨Bw,hv⟩:∃ b,wq.heap.size=b:=⟨_,rfl⟩
  have hBw:w8.heap.size≤Bw:=by have:=hHeld.size;omega
  have hp:Value.pointer (some ⟨wq.heap.size,0,none⟩)=Value.pointer (some ⟨Bw,0,none⟩):=by rw [hv]
  rw [hp]
  rw [hv] at Z NK
  clear hp hv
  have hBq:Bw < (wq.alloc (.cells #[.int .i64 0,.bool false,.int .u64 0,.int .u64 0,.int .u64 0,.int .u64 0,.int .u64 0,.string ⟨#[]⟩,.slice none 0 0,.slice none 0 0] 31)).heap.size:=Z.out.lt
  have hH2:=below_trans hHeld hA
  clear hHeld hA
  obtain ⟨wq,hwq⟩:∃ x,wq.alloc (.cells #[.int .i64 0,.bool false,.int .u64 0,.int .u64 0,.int .u64 0,.int .u64 0,.int .u64 0,.string ⟨#[]⟩,.slice none 0 0,.slice none 0 0] 31)=x:=⟨_,rfl⟩
  rw [hwq] at hH2 RK Z hBq ⊢
  clear hwq
  have hHeld:=hH2
  clear hH2
  exact pa_101):p:=h
theorem pa_011 {p:Prop} (h:p:=by
 refine zb2zs1 ?_
 refine wpAnyT_ready (rs:=[0]) z0a z0f ?_
 refine AllReadyT.cons rfl (fun KK hK=>?_) AllReadyT.nil
 go_simp
 have hA:Below wq.heap.size wq (wq.alloc (.cells #[] 9)):=below_alloc (Below.refl _ _) _
 refine hK.out _ _ (fun _=>below_trans hHeld hA) (fun _=>?_)
 clear hK KK
 have RL2:=Lib.hid (rows_below RL.out hA)
 clear RL
 have RL:=RL2
 clear RL2
 have Z2:=Lib.hid (Z.out.below hA)
 clear Z
 have Z:=Z2
 clear Z2
 have RK:(wq.alloc (.cells #[] 9)).ownsRow w8.heap.size 9 1 (.slice (some ⟨wq.heap.size,0,none⟩) 0 0) 0 []:=World.ownsRow_made wq #[] 0 hHeld.size z0e rfl
 have IK:InBlock (.slice (some ⟨wq.heap.size,0,none⟩) 0 0) 0:=⟨_,_,rfl⟩
 have NK:some Bw≠(Value.slice (some ⟨wq.heap.size,0,none⟩) 0 0).ownBlock:=fun h=>by injection h with h;have h:Bw=wq.heap.size:=h;omega
 obtain ⟨vk,hv⟩:∃ v,Value.slice (some ⟨wq.heap.size,0,none⟩) 0 0=v:=⟨_,rfl⟩
 rw [hv] at RK IK NK ⊢
 clear hv
 have RK2:=Lib.hid RK
 clear RK
 have RK:=RK2
 clear RK2
 have hBl:Bw < (wq.alloc (.cells #[] 9)).heap.size:=Z.out.lt
 clear hBq
 have hBq:=hBl
 clear hBl
 have hH2:=below_trans hHeld hA
 clear hHeld hA
 obtain ⟨wq,hwq⟩:∃ x,wq.alloc (.cells #[] 9)=x:=⟨_,rfl⟩
 rw [hwq] at hH2 RK RL Z hBq ⊢
 clear hwq
 have hHeld:=hH2
 clear hH2
 exact pa_111):p:=h
theorem pa_010 {p:Prop} (h:p:=by
 refine zb2zs1 ?_
 refine wpAnyT_ready (rs:=[0,25]) z0a z0f ?_
 refine AllReadyT.cons rfl (fun KK hK=>?_) (AllReadyT.cons rfl (fun KK hK=>?_) AllReadyT.nil)
 ·go_simp
  have hA:Below wq.heap.size wq (wq.alloc (.cells #[] 9)):=below_alloc (Below.refl _ _) _
  refine hK.out _ _ (fun _=>below_trans hHeld hA) (fun _=>?_)
  clear hK KK
  have RL2:=Lib.hid (rows_below RL.out hA)
  clear RL
  have RL:=RL2
  clear RL2
  have RK:(wq.alloc (.cells #[] 9)).ownsRow w8.heap.size 9 1 (.slice (some ⟨wq.heap.size,0,none⟩) 0 0) 0 []:=World.ownsRow_made wq #[] 0 hHeld.size z0e rfl
  have IK:InBlock (.slice (some ⟨wq.heap.size,0,none⟩) 0 0) 0:=⟨_,_,rfl⟩
  obtain ⟨vk,hv⟩:∃ v,Value.slice (some ⟨wq.heap.size,0,none⟩) 0 0=v:=⟨_,rfl⟩
  rw [hv] at RK IK ⊢
  clear hv
  have RK2:=Lib.hid RK
  clear RK
  have RK:=RK2
  clear RK2
  have hH2:=below_trans hHeld hA
  clear hHeld hA
  obtain ⟨wq,hwq⟩:∃ x,wq.alloc (.cells #[] 9)=x:=⟨_,rfl⟩
  rw [hwq] at hH2 RK RL ⊢
  clear hwq
  have hHeld:=hH2
  clear hH2
  exact pa_110
 ·go_simp
  have hA:Below wq.heap.size wq (wq.alloc (.cells #[.int .i64 0,.bool false,.int .u64 0,.int .u64 0,.int .u64 0,.int .u64 0,.int .u64 0,.string ⟨#[]⟩,.slice none 0 0,.slice none 0 0] 31)):=below_alloc (Below.refl _ _) _
  refine hK.out _ _ (fun _=>below_trans hHeld hA) (fun _=>?_)
  clear hK KK
  have NL:some wq.heap.size≠vl.ownBlock:=fun h=>by have:=(RL.out.lt _ h.symm).2;omega
  have RL2:=Lib.hid (rows_below RL.out hA)
  clear RL
  have RL:=RL2
  clear RL2
  have Z:Hid (WBx (wq.alloc (.cells #[.int .i64 0,.bool false,.int .u64 0,.int .u64 0,.int .u64 0,.int .u64 0,.int .u64 0,.string ⟨#[]⟩,.slice none 0 0,.slice none 0 0] 31)) wq.heap.size (.int .i64 0) (.bool false) (.int .u64 0) (.int .u64 0) (.int .u64 0) (.int .u64 0) (.int .u64 0) (.string ⟨#[]⟩) (.slice none 0 0) (.slice none 0 0)):=Lib.hid ⟨⟨by simp [go_sem]⟩,fun j=>by simp [go_sem]⟩
  obtain ⟨Bw,hv⟩:∃ b,wq.heap.size=b:=⟨_,rfl⟩
  have hBw:w8.heap.size≤Bw:=by have:=hHeld.size;omega
  have hp:Value.pointer (some ⟨wq.heap.size,0,none⟩)=Value.pointer (some ⟨Bw,0,none⟩):=by rw [hv]
  rw [hp]
  rw [hv] at Z NL
  clear hp hv
  have hBq:Bw < (wq.alloc (.cells #[.int .i64 0,.bool false,.int .u64 0,.int .u64 0,.int .u64 0,.int .u64 0,.int .u64 0,.string ⟨#[]⟩,.slice none 0 0,.slice none 0 0] 31)).heap.size:=Z.out.lt
  have hH2:=below_trans hHeld hA
  clear hHeld hA
  obtain ⟨wq,hwq⟩:∃ x,wq.alloc (.cells #[.int .i64 0,.bool false,.int .u64 0,.int .u64 0,.int .u64 0,.int .u64 0,.int .u64 0,.string ⟨#[]⟩,.slice none 0 0,.slice none 0 0] 31)=x:=⟨_,rfl⟩
  rw [hwq] at hH2 RL Z hBq ⊢
  clear hwq
  have hHeld:=hH2
  clear hH2
  exact pa_011):p:=h
theorem pa_001 {p:Prop} (h:p:=by
 refine zb2zs1 ?_
 refine wpAnyT_ready (rs:=[0,12]) z0a z0f ?_
 refine AllReadyT.cons rfl (fun KK hK=>?_) (AllReadyT.cons rfl (fun KK hK=>?_) AllReadyT.nil)
 ·go_simp
  have hA:Below wq.heap.size wq (wq.alloc (.cells #[] 9)):=below_alloc (Below.refl _ _) _
  refine hK.out _ _ (fun _=>below_trans hHeld hA) (fun _=>?_)
  clear hK KK
  have Z2:=Lib.hid (Z.out.below hA)
  clear Z
  have Z:=Z2
  clear Z2
  have RK:(wq.alloc (.cells #[] 9)).ownsRow w8.heap.size 9 1 (.slice (some ⟨wq.heap.size,0,none⟩) 0 0) 0 []:=World.ownsRow_made wq #[] 0 hHeld.size z0e rfl
  have IK:InBlock (.slice (some ⟨wq.heap.size,0,none⟩) 0 0) 0:=⟨_,_,rfl⟩
  have NK:some Bw≠(Value.slice (some ⟨wq.heap.size,0,none⟩) 0 0).ownBlock:=fun h=>by injection h with h;have h:Bw=wq.heap.size:=h;omega
  obtain ⟨vk,hv⟩:∃ v,Value.slice (some ⟨wq.heap.size,0,none⟩) 0 0=v:=⟨_,rfl⟩
  rw [hv] at RK IK NK ⊢
  clear hv
  have RK2:=Lib.hid RK
  clear RK
  have RK:=RK2
  clear RK2
  have hBl:Bw < (wq.alloc (.cells #[] 9)).heap.size:=Z.out.lt
  clear hBq
  have hBq:=hBl
  clear hBl
  have hH2:=below_trans hHeld hA
  clear hHeld hA
  obtain ⟨wq,hwq⟩:∃ x,wq.alloc (.cells #[] 9)=x:=⟨_,rfl⟩
  rw [hwq] at hH2 RK Z hBq ⊢
  clear hwq
  have hHeld:=hH2
  clear hH2
  exact pa_101
 ·go_simp
  have hA:Below wq.heap.size wq (wq.alloc (.cells #[] 31)):=below_alloc (Below.refl _ _) _
  refine hK.out _ _ (fun _=>below_trans hHeld hA) (fun _=>?_)
  clear hK KK
  have Z2:=Lib.hid (Z.out.below hA)
  clear Z
  have Z:=Z2
  clear Z2
  have RL:(wq.alloc (.cells #[] 31)).ownsRow w8.heap.size 31 10 (.slice (some ⟨wq.heap.size,0,none⟩) 0 0) 0 []:=World.ownsRow_made wq #[] 0 hHeld.size z0e rfl
  have IL:InBlock (.slice (some ⟨wq.heap.size,0,none⟩) 0 0) 0:=⟨_,_,rfl⟩
  have NL:some Bw≠(Value.slice (some ⟨wq.heap.size,0,none⟩) 0 0).ownBlock:=fun h=>by injection h with h;have h:Bw=wq.heap.size:=h;omega
  obtain ⟨vl,hv⟩:∃ v,Value.slice (some ⟨wq.heap.size,0,none⟩) 0 0=v:=⟨_,rfl⟩
  rw [hv] at RL IL NL ⊢
  clear hv
  have RL2:=Lib.hid RL
  clear RL
  have RL:=RL2
  clear RL2
  have hBl:Bw < (wq.alloc (.cells #[] 31)).heap.size:=Z.out.lt
  clear hBq
  have hBq:=hBl
  clear hBl
  have hH2:=below_trans hHeld hA
  clear hHeld hA
  obtain ⟨wq,hwq⟩:∃ x,wq.alloc (.cells #[] 31)=x:=⟨_,rfl⟩
  rw [hwq] at hH2 RL Z hBq ⊢
  clear hwq
  have hHeld:=hH2
  clear hH2
  exact pa_011):p:=h
theorem Parts_go (M:Nat→PM) (a:Option Addr) (n c:Nat) (neg:Bool) (V bits:Nat) (text:ByteArray) (bL oL cL bK oK nK cK:Nat) (kids:Nat→VT) (keys:Nat→ByteArray) (wh:Int) (P:Bool) (w:World) (hn:0 < nK) (h1000:nK≤1000) (hcL:nK≤cL) (hcK:nK≤cK) (hmL:cL≤maxLen) (hmK:cK≤maxLen) (hbL:bL < w.heap.size) (_hbK:bK < w.heap.size)
  (hS:soFar M n kids keys nK=P)
  (C1:Hid (∀ wr:World,Below w.heap.size w wr→Calls Tryz.prog 6 #[.slice a n c] wr fun e w'=>e=.returned (.bool true)∧Below wr.heap.size wr w'))
  (C2:Hid (∀ wr:World,Below w.heap.size w wr→Calls Tryz.prog 7 #[.agg #[.int .i64 8,.bool neg,.int .u64 (lm V 0:Nat),.int .u64 (lm V 1:Nat),.int .u64 (lm V 2:Nat),.int .u64 (lm V 3:Nat),.int .u64 (bits:Nat),.string text,.slice (some ⟨bL,oL,none⟩) nK cL,.slice (some ⟨bK,oK,none⟩) nK cK]] wr fun e w'=>e=.returned (.bool true)∧Below wr.heap.size wr w'))
  (C3:Hid (∀ wr:World,Below w.heap.size w wr→Calls Tryz.prog 15 #[.agg #[.int .i64 8,.bool neg,.int .u64 (lm V 0:Nat),.int .u64 (lm V 1:Nat),.int .u64 (lm V 2:Nat),.int .u64 (lm V 3:Nat),.int .u64 (bits:Nat),.string text,.slice (some ⟨bL,oL,none⟩) nK cL,.slice (some ⟨bK,oK,none⟩) nK cK]] wr fun e w'=>e=.returned (.int .i64 0)∧Below wr.heap.size wr w'))
  (hLc:∀ i,i < nK→∀ j,j < 10→w.cell? ⟨bL,oL+i * 10+j,none⟩=(kids i).cells[j]?) (hKc:∀ i,i < nK→w.cell? ⟨bK,oK+i,none⟩=some (.string (keys i))∧(keys i).size≤maxLen) (hI:∀ i,i < nK→(kids i).In w)
  (C5:Hid (∀ i,i < nK→∀ wr:World,Below w.heap.size w wr→Calls Tryz.prog 11 #[.slice a n c,.agg #[.int .i64 8,.bool false,.int .u64 0,.int .u64 0,.int .u64 0,.int .u64 0,.int .u64 0,.string ⟨#[]⟩,.slice (some ⟨bL,oL+i * 10,none⟩) 1 (cL - i),.slice (some ⟨bK,oK+i,none⟩) 1 (cK - i)]] wr fun e w'=>e=.returned (.bool (checkB M n && !memB M n kids keys i))∧Below wr.heap.size wr w'))
  (C6:Hid (∀ wr:World,Below w.heap.size w wr→Calls Tryz.prog 11 #[.slice a n c,.agg #[.int .i64 8,.bool neg,.int .u64 (lm V 0:Nat),.int .u64 (lm V 1:Nat),.int .u64 (lm V 2:Nat),.int .u64 (lm V 3:Nat),.int .u64 (bits:Nat),.string text,.slice (some ⟨bL,oL,none⟩) nK cL,.slice (some ⟨bK,oK,none⟩) nK cK]] wr fun e w'=>e=.returned (.bool P)∧Below wr.heap.size wr w'))
  (C7:Hid (P=true→∀ k,k < nK→∀ (wr:World) (gl cl gk ck:Nat),Below w.heap.size w wr→(someT (fun j=>j != k) (some ⟨gl,0,none⟩) nK cl kids (some ⟨gk,0,none⟩) ck keys).In wr→Calls Tryz.prog 11 #[.slice a n c,.agg #[.int .i64 8,.bool false,.int .u64 0,.int .u64 0,.int .u64 0,.int .u64 0,.int .u64 0,.string ⟨#[]⟩,.slice (some ⟨gl,0,none⟩) (k+(nK - (k+1))) cl,.slice (some ⟨gk,0,none⟩) (k+(nK - (k+1))) ck]] wr fun e w'=>e=.returned (.bool true)∧Below wr.heap.size wr w'))
  (CT:Hid (∀ wr:World,Below w.heap.size w wr→Calls Tryz.prog 8 #[] wr fun e w'=>e=.returned (.bool true)∧Below wr.heap.size wr w')) :
  Calls Tryz.prog 5 #[.slice a n c,.agg #[.int .i64 8,.bool neg,.int .u64 (lm V 0:Nat),.int .u64 (lm V 1:Nat),.int .u64 (lm V 2:Nat),.int .u64 (lm V 3:Nat),.int .u64 (bits:Nat),.string text,.slice (some ⟨bL,oL,none⟩) nK cL,.slice (some ⟨bK,oK,none⟩) nK cK],.int .i64 wh] w fun e w'=>e=.returned (.bool true)∧Below w.heap.size w w':=by
 have V0:=Lib.hid (vbx_new w 31 8 neg V bits text (some ⟨bL,oL,none⟩) nK cL (some ⟨bK,oK,none⟩) nK cK)
 have HS:=Lib.hid hS
 have HI:=Lib.hid hI
 have HLc:=Lib.hid hLc
 have HKc:=Lib.hid hKc
 clear hS hI hLc hKc
 have hm1:cL < 9223372036854775808:=by have:=hmL;unfold maxLen at this;omega
 have hm2:cK < 9223372036854775808:=by have:=hmK;unfold maxLen at this;omega
 go_enter Tryz.func5,Tryz.ntmps5
 repeat any_goals (first|(go_at_call 6;with_reducible refine (C1.out _ zb2).mono ?_;rintro e w1 ⟨rfl,hb1⟩;(first|have V1:=Lib.hid (V0.out.below hb1)|have V1:=Lib.hid (V0.out.step hb1));obtain ⟨_,_,_,_,_,_,_,_,_,_⟩:=V1.out.all)|(go_at_call 7;with_reducible refine (C2.out _ zb2).mono ?_;rintro e w2 ⟨rfl,hb2⟩;(first|have V2:=Lib.hid (V1.out.below hb2)|have V2:=Lib.hid (V1.out.step hb2));obtain ⟨_,_,_,_,_,_,_,_,_,_⟩:=V2.out.all)|(go_at_call 15;with_reducible refine (C3.out _ zb2).mono ?_;rintro e w4 ⟨rfl,hb4⟩;(first|have V4:=Lib.hid (V2.out.below hb4)|have V4:=Lib.hid (V2.out.step hb4));obtain ⟨_,_,_,_,_,_,_,_,_,_⟩:=V4.out.all)|go_skip|go_guarded|go_step|go_upon|(dsimp only []))
 trace_state
 go_loopw [7,8] (fun s7 s8 wq=>∃ i:Nat,i≤nK∧s7=.bool (soFar M n kids keys i)∧s8=.int .i64 i∧Below w4.heap.size w4 wq) (fun _ s8 _=>nK - (intOf s8).toNat)
 case atStart=>exact ⟨0,Nat.zero_le _,rfl,rfl,Below.refl _ _⟩
 case round=>
  obtain ⟨i,hi,rfl,rfl,hbr⟩:=hrel
  have V5:=Lib.hid (V4.out.below hbr)
  obtain ⟨_,_,_,_,_,_,_,_,_,_⟩:=V5.out.all
  by_cases hin:i < nK
  ·have i1:(i:Int) < (nK:Int):=by omega
   have i2:(0:Int)≤(i:Int):=by omega
   have i3:(i:Int)+1≤(cK:Int):=by omega
   have i4:(i:Int)+1≤(cL:Int):=by omega
   have eT:((i:Int)+1).toNat=i+1:=by omega
   have eD:i+1 - i=1:=by omega
   have hs:soFar M n kids keys (i+1)=(soFar M n kids keys i && (checkB M n && !memB M n kids keys i)):=rfl
   have CV:Hid (∀ wr:World,Below w.heap.size w wr→Calls Tryz.prog 11 #[.slice a n c,.agg #[.int .i64 8,.bool false,.int .u64 0,.int .u64 0,.int .u64 0,.int .u64 0,.int .u64 0,.string ⟨#[]⟩,.slice (some ⟨bL,oL+i * 10,none⟩) 1 (cL - i),.slice (some ⟨bK,oK+i,none⟩) 1 (cK - i)]] wr fun e w'=>e=.returned (.bool (checkB M n && !memB M n kids keys i))∧Below wr.heap.size wr w'):=Lib.hid (C5.out i hin)
   obtain ⟨q,hq⟩:∃ x,(checkB M n && !memB M n kids keys i)=x:=⟨_,rfl⟩
   rw [hq] at CV hs
   obtain ⟨sf,hsf⟩:∃ x,soFar M n kids keys i=x:=⟨_,rfl⟩
   rw [hsf] at hs
   rw [hsf]
   have hW:Below w.heap.size w wr:=zb2
   have HS1:=Lib.hid hs
   clear hs hq hsf
   go_upto_region 7 with fail
   cases sf with
   | true=>
    (obtain ⟨C_,hC⟩:∃ C:World→Prop,C=fun w'=>Below (wr).heap.size (wr) w':=⟨_,rfl⟩;have HC:=Lib.hid hC;have hne:∀ p:Prop,(∀ w1:World,C_ w1→p)=p:=fun p=>propext ⟨fun h=>h (wr) z0i,fun h _ _=>h⟩;clear hC;refine wp_region_quiet_great (C:=C_) z0a z0a z0g ?_)
    (go_big_quiet_want;go_big_quiet_op;go_big_quiet_on)
    (go_big_quiet_want;go_big_quiet_op;go_big_quiet_on)
    (go_big_quiet_want;go_big_quiet_op;go_big_quiet_on)
    (go_big_quiet_want;go_big_quiet_op;go_big_quiet_on)
    (go_big_quiet_want;refine ⟨.slice (some ⟨bK,oK,none⟩) nK cK,fun w1 hw1=>?_,?_⟩;(rw [HC.out] at hw1;obtain ⟨_,_,_,_,_⟩:=(V5.out.below hw1).all;simp [Oper.quietAt,go_sem, *]);(try simp only [Act.put,List.setIfInBounds_toArray,List.set_cons_zero,List.set_cons_succ]);go_big_quiet_on)
    (go_big_quiet_want;go_big_quiet_op;go_big_quiet_on)
    (go_big_quiet_want;go_big_quiet_op;go_big_quiet_on)
    (go_big_quiet_want;go_big_quiet_op;go_big_quiet_on)
    (go_big_quiet_want;go_big_quiet_op;go_big_quiet_on)
    (go_big_quiet_want;go_big_quiet_op;go_big_quiet_on)
    (go_big_quiet_want;refine ⟨.slice (some ⟨bL,oL,none⟩) nK cL,fun w1 hw1=>?_,?_⟩;(rw [HC.out] at hw1;obtain ⟨_,_,_,_,_⟩:=(V5.out.below hw1).all;simp [Oper.quietAt,go_sem, *]);(try simp only [Act.put,List.setIfInBounds_toArray,List.set_cons_zero,List.set_cons_succ]);go_big_quiet_on)
    (go_big_quiet_want;go_big_quiet_op;go_big_quiet_on)
    (go_big_quiet_want;go_big_quiet_op;go_big_quiet_on)
    (go_big_quiet_want;go_big_quiet_op;go_big_quiet_on)
    (go_big_quiet_want;go_big_quiet_op;go_big_quiet_on)
    (go_big_quiet_want;go_big_quiet_op;go_big_quiet_on)
    (go_big_quiet_want;go_big_quiet_op;refine ⟨.bool q,fun w1 hw1=>?_,?_⟩;(rw [HC.out] at hw1 ⊢;with_reducible refine (CV.out _ (below_trans hW hw1)).mono ?_;rintro e w4 ⟨rfl,hb4⟩;exact ⟨rfl,below_trans hw1 hb4⟩);go_big_quiet_on)
    (go_big_quiet_want;go_big_quiet_op;go_big_quiet_on)
    (go_big_quiet_want;go_big_quiet_op;go_big_quiet_on)
    (refine wpQuiet_nil ?_;intro w2 hw2;rw [HC.out] at hw2)
    repeat any_goals (first|go_skip|go_guarded|go_step|go_upon|(simp only [];done))
    go_roundw
    case rel=>exact ⟨i+1,by omega,by rw [HS1.out];rfl,rfl,below_trans hbr hw2⟩
    case measure=>simp [intOf];omega
   | false=>
    repeat any_goals (first|go_region|go_skip|go_guarded|go_step|go_upon|(dsimp only []))
    go_roundw
    case rel=>exact ⟨i+1,by omega,by rw [HS1.out];rfl,rfl,zb2⟩
    case measure=>simp [intOf];omega
  ·have i1:¬ (i:Int) < (nK:Int):=by omega
   obtain rfl:nK=i:=by omega
   rw [HS.out]
   have i2:(0:Int) < (nK:Int):=by omega
   obtain ⟨k,hk,ek⟩:=which_lt wh hn z0c
   go_upto_region 8 with fail
   go_cut [9] (fun s9 wx=>s9=.int .i64 (k:Nat)∧wr=wx)
   case first=>
    repeat any_goals (first|go_skip|go_guarded|go_step|go_upon|(simp only [];done))
    rw [ek]
    go_meet
    case rel=>exact ⟨rfl,rfl⟩
   case rest=>
   obtain ⟨rfl,rfl⟩:=hcut
   clear ek
   go_upto_region 9 with fail
   have hW8:Below w.heap.size w wr.drew:=zb2
   have V8:=Lib.hid (V5.out.below (Below.refl wr.heap.size wr).drew)
   go_cut [10] (fun s10 wx=>∃ Bw gl cl gk ck:Nat,s10=.pointer (some ⟨Bw,0,none⟩)∧Hid (RBx wx Bw (.int .i64 8) (.bool false) (.int .u64 0) (.int .u64 0) (.int .u64 0) (.int .u64 0) (.int .u64 0) (.string ⟨#[]⟩) (.slice (some ⟨gl,0,none⟩) (k+(nK - (k+1))) cl) (.slice (some ⟨gk,0,none⟩) (k+(nK - (k+1))) ck))∧Below wr.drew.heap.size wr.drew wx∧Hid ((someT (fun j=>j != k) (some ⟨gl,0,none⟩) nK cl kids (some ⟨gk,0,none⟩) ck keys).In wx))
   case rest=>
    obtain ⟨Bw,gl,cl,gk,ck,rfl,R9,hB9,HT⟩:=hcut
    have hW9:=below_trans hW8 hB9
    have V9:=Lib.hid (V8.out.below hB9)
    obtain ⟨_,_,_,_,_,_,_,_,_,_⟩:=V9.out.all
    cases P with
    | true=>
     repeat any_goals (first|(go_at_call 11;with_reducible refine (C6.out _ hW9).mono ?_;rintro e w10 ⟨rfl,hb10⟩)|(go_at_call 8;with_reducible refine (CT.out _ (below_trans hW9 hb10)).mono ?_;rintro e w11 ⟨rfl,hb11⟩;have R11:=Lib.hid (R9.out.below (below_trans hb10 hb11));obtain ⟨_,_,_,_,_,_,_,_,_,_⟩:=R11.out.all)|(go_at_call 11;with_reducible refine (C7.out rfl k hk _ gl cl gk ck (below_trans hW9 (below_trans hb10 hb11)) (VT.In.below (below_trans hb10 hb11) _ HT.out)).mono ?_;rintro e w12 ⟨rfl,hb12⟩)|go_skip|go_guarded|go_step|go_upon|(dsimp only []))
     exact bodyPost_ret (v:=.bool true) z0l1 rfl ⟨rfl,below_trans hW9 (below_trans hb10 (below_trans hb11 hb12))⟩
    | false=>
     repeat any_goals (first|(go_at_call 11;with_reducible refine (C6.out _ hW9).mono ?_;rintro e w10 ⟨rfl,hb10⟩)|(go_at_call 8;with_reducible refine (CT.out _ (below_trans hW9 hb10)).mono ?_;rintro e w11 ⟨rfl,hb11⟩)|go_skip|go_guarded|go_step|go_upon|(dsimp only []))
     exact bodyPost_ret (v:=.bool true) z0l1 rfl ⟨rfl,below_trans hW9 (below_trans hb10 hb11)⟩
   case first=>
   have k1:(k:Int)≤(cK:Int):=by omega
   have k2:(k:Int)≤(cL:Int):=by omega
   have k3:(k:Int)+1≤(nK:Int):=by omega
   have k4:(0:Int)≤(k:Int):=by omega
   have k5:(0:Int)≤(k:Int)+1:=by omega
   have eT:((k:Int)+1).toNat=k+1:=by omega
   have eW:IntKind.i64.wrap ((k:Int)+1)=(k:Int)+1:=wrap_small z0c z0c
   obtain ⟨oK2,hoK,hoK2⟩:∃ o2,(if cK=k+1 then some (⟨bK,oK,none⟩:Addr) else some ⟨bK,oK+(k+1),none⟩)=some ⟨bK,o2,none⟩∧(¬ cK=k+1→o2=oK+(k+1)):=by split;exact ⟨_,rfl,fun h=>absurd ‹_› h⟩;exact ⟨_,rfl,fun _=>rfl⟩
   obtain ⟨oL2,hoL,hoL2⟩:∃ o2,(if cL=k+1 then some (⟨bL,oL,none⟩:Addr) else some ⟨bL,oL+(k+1) * 10,none⟩)=some ⟨bL,o2,none⟩∧(¬ cL=k+1→o2=oL+(k+1) * 10):=by split;exact ⟨_,rfl,fun h=>absurd ‹_› h⟩;exact ⟨_,rfl,fun _=>rfl⟩
   have hw8:Below wr.drew.heap.size wr.drew wr.drew:=Below.refl _ _
   have h10:∀ i,i < nK→(kids i).cells.length=10:=fun i hi=>cells_len (HI.out i hi)
   refine wp_region_late (fun w'=>Below wr.drew.heap.size wr.drew w') (fun i=>decide (26≤i)) z0a hw8 (fun hHeld=>?_)
   clear hw8
   generalize wr.drew=w8 at *
   have SK1:Hid (∀ wq,Below w8.heap.size w8 wq→∀ j u,(rowK keys k)[j]? = some u→wq.cell? ((⟨bK,oK,none⟩:Addr).add j)=some u):=Lib.hid fun wq hq=>newsK fun i hi=>keep_cell (below_trans hW8 hq) (HKc.out i z0c).1
   have SK2:Hid (∀ wq,Below w8.heap.size w8 wq→∀ j u,(rowK (fun i=>keys (k+1+i)) (nK - (k+1)))[j]? = some u→wq.cell? ((⟨bK,oK2,none⟩:Addr).add j)=some u):=Lib.hid fun wq hq=>newsK (keys:=fun i=>keys (k+1+i)) fun i hi=>keep_cell (below_trans hW8 hq) (by rw [hoK2 z0c,Nat.add_assoc];exact (HKc.out (k+1+i) z0c).1)
   have SL1:Hid (∀ wq,Below w8.heap.size w8 wq→∀ j u,(rowV kids k)[j]? = some u→wq.cell? ((⟨bL,oL,none⟩:Addr).add j)=some u):=Lib.hid fun wq hq=>newsV (fun i hi=>h10 i z0c) fun i hi j hj=>by rw [(below_trans hW8 hq).cell (p:=⟨bL,oL+i * 10+j,none⟩) hbL];exact HLc.out i z0c j hj
   have SL2:Hid (∀ wq,Below w8.heap.size w8 wq→∀ j u,(rowV (fun i=>kids (k+1+i)) (nK - (k+1)))[j]? = some u→wq.cell? ((⟨bL,oL2,none⟩:Addr).add j)=some u):=Lib.hid fun wq hq=>newsV (kids:=fun i=>kids (k+1+i)) (fun i hi=>h10 _ z0c) fun i hi j hj=>by rw [hoL2 z0c,(below_trans hW8 hq).cell (p:=⟨bL,oL+(k+1) * 10+i * 10+j,none⟩) hbL,show oL+(k+1) * 10+i * 10+j=oL+(k+1+i) * 10+j by omega];exact HLc.out (k+1+i) z0c j hj
   obtain ⟨iS,hiS,hsS0,hsS1,hsS2⟩:=info_parts infoStr
   obtain ⟨iV,hiV,hvV0,hvV1,hvV2⟩:=info_parts infoVal
   have hC8:=V8.out.all.2.2.2.2.2.2.2.2.1
   have hC9:=V8.out.all.2.2.2.2.2.2.2.2.2
   refine wpAnyT_take (i:=1) (v:=?_) rfl z0a z0a z0a z0a z0a (fun _ _ _ h=>h) (Or.inl ⟨by rfl,?_⟩) hHeld ?_
   rotate_left
   (focus (intro wq hSw;have hSw:Below w8.heap.size w8 wq:=hSw;have h8:=keep_cell hSw hC8;have h9:=keep_cell hSw hC9;go_simp;(try with_reducible rfl)))
   refine zb2zs1 ?_
   refine wpAnyT_take (i:=2) (v:=?_) rfl z0a z0a z0a z0a z0a (fun _ _ _ h=>h) (Or.inl ⟨by rfl,?_⟩) hHeld ?_
   rotate_left
   (focus (intro wq hSw;have hSw:Below w8.heap.size w8 wq:=hSw;have h8:=keep_cell hSw hC8;have h9:=keep_cell hSw hC9;go_simp;(try with_reducible rfl)))
   refine zb2zs1 ?_
   refine wpAnyT_take (i:=3) (v:=?_) rfl z0a z0a z0a z0a z0a (fun _ _ _ h=>h) (Or.inl ⟨by rfl,?_⟩) hHeld ?_
   rotate_left
   (focus (intro wq hSw;have hSw:Below w8.heap.size w8 wq:=hSw;have h8:=keep_cell hSw hC8;have h9:=keep_cell hSw hC9;go_simp;(try with_reducible rfl)))
   refine zb2zs1 ?_
   refine wpAnyT_take (i:=4) (v:=?_) rfl z0a z0a z0a z0a z0a (fun _ _ _ h=>h) (Or.inl ⟨by rfl,?_⟩) hHeld ?_
   rotate_left
   (focus (intro wq hSw;have hSw:Below w8.heap.size w8 wq:=hSw;have h8:=keep_cell hSw hC8;have h9:=keep_cell hSw hC9;go_simp;(try with_reducible rfl)))
   refine zb2zs1 ?_
   refine wpAnyT_take (i:=6) (v:=?_) rfl z0a z0a z0a z0a z0a (fun _ _ _ h=>h) (Or.inl ⟨by rfl,?_⟩) hHeld ?_
   rotate_left
   (focus (intro wq hSw;have hSw:Below w8.heap.size w8 wq:=hSw;have h8:=keep_cell hSw hC8;have h9:=keep_cell hSw hC9;go_simp;(try with_reducible rfl)))
   refine zb2zs1 ?_
   refine wpAnyT_take (i:=7) (v:=?_) rfl z0a z0a z0a z0a z0a (fun _ _ _ h=>h) (Or.inl ⟨by rfl,?_⟩) hHeld ?_
   rotate_left
   (focus (intro wq hSw;have hSw:Below w8.heap.size w8 wq:=hSw;have h8:=keep_cell hSw hC8;have h9:=keep_cell hSw hC9;go_simp;(try with_reducible rfl)))
   refine zb2zs1 ?_
   refine wpAnyT_take (i:=8) (v:=?_) rfl z0a z0a z0a z0a z0a (fun _ _ _ h=>h) (Or.inl ⟨by rfl,?_⟩) hHeld ?_
   rotate_left
   (focus (intro wq hSw;have hSw:Below w8.heap.size w8 wq:=hSw;have h8:=keep_cell hSw hC8;have h9:=keep_cell hSw hC9;go_simp;(try with_reducible rfl)))
   refine zb2zs1 ?_
   refine wpAnyT_take (i:=9) (v:=?_) rfl z0a z0a z0a z0a z0a (fun _ _ _ h=>h) (Or.inl ⟨by rfl,?_⟩) hHeld ?_
   rotate_left
   (focus (intro wq hSw;have hSw:Below w8.heap.size w8 wq:=hSw;have h8:=keep_cell hSw hC8;have h9:=keep_cell hSw hC9;go_simp;(try with_reducible rfl)))
   refine zb2zs1 ?_
   refine wpAnyT_take (i:=10) (v:=?_) rfl z0a z0a z0a z0a z0a (fun _ _ _ h=>h) (Or.inl ⟨by rfl,?_⟩) hHeld ?_
   rotate_left
   (focus (intro wq hSw;have hSw:Below w8.heap.size w8 wq:=hSw;have h8:=keep_cell hSw hC8;have h9:=keep_cell hSw hC9;go_simp;(try with_reducible rfl)))
   refine zb2zs1 ?_
   refine wpAnyT_take (i:=13) (v:=?_) rfl z0a z0a z0a z0a z0a (fun _ _ _ h=>h) (Or.inl ⟨by rfl,?_⟩) hHeld ?_
   rotate_left
   (focus (intro wq hSw;have hSw:Below w8.heap.size w8 wq:=hSw;have h8:=keep_cell hSw hC8;have h9:=keep_cell hSw hC9;go_simp;(try with_reducible rfl)))
   refine zb2zs1 ?_
   refine wpAnyT_take (i:=14) (v:=?_) rfl z0a z0a z0a z0a z0a (fun _ _ _ h=>h) (Or.inl ⟨by rfl,?_⟩) hHeld ?_
   rotate_left
   (focus (intro wq hSw;have hSw:Below w8.heap.size w8 wq:=hSw;have h8:=keep_cell hSw hC8;have h9:=keep_cell hSw hC9;go_simp;(try with_reducible rfl)))
   refine zb2zs1 ?_
   refine wpAnyT_take (i:=15) (v:=?_) rfl z0a z0a z0a z0a z0a (fun _ _ _ h=>h) (Or.inl ⟨by rfl,?_⟩) hHeld ?_
   rotate_left
   (focus (intro wq hSw;have hSw:Below w8.heap.size w8 wq:=hSw;have h8:=keep_cell hSw hC8;have h9:=keep_cell hSw hC9;go_simp;(try with_reducible rfl)))
   refine zb2zs1 ?_
   refine wpAnyT_take (i:=16) (v:=?_) rfl z0a z0a z0a z0a z0a (fun _ _ _ h=>h) (Or.inl ⟨by rfl,?_⟩) hHeld ?_
   rotate_left
   (focus (intro wq hSw;have hSw:Below w8.heap.size w8 wq:=hSw;have h8:=keep_cell hSw hC8;have h9:=keep_cell hSw hC9;go_simp;(try with_reducible rfl)))
   refine zb2zs1 ?_
   refine wpAnyT_take (i:=18) (v:=?_) rfl z0a z0a z0a z0a z0a (fun _ _ _ h=>h) (Or.inl ⟨by rfl,?_⟩) hHeld ?_
   rotate_left
   (focus (intro wq hSw;have hSw:Below w8.heap.size w8 wq:=hSw;have h8:=keep_cell hSw hC8;have h9:=keep_cell hSw hC9;go_simp;(try with_reducible rfl)))
   refine zb2zs1 ?_
   refine wpAnyT_take (i:=19) (v:=?_) rfl z0a z0a z0a z0a z0a (fun _ _ _ h=>h) (Or.inl ⟨by rfl,?_⟩) hHeld ?_
   rotate_left
   (focus (intro wq hSw;have hSw:Below w8.heap.size w8 wq:=hSw;have h8:=keep_cell hSw hC8;have h9:=keep_cell hSw hC9;go_simp;(try with_reducible rfl)))
   refine zb2zs1 ?_
   refine wpAnyT_take (i:=20) (v:=?_) rfl z0a z0a z0a z0a z0a (fun _ _ _ h=>h) (Or.inl ⟨by rfl,?_⟩) hHeld ?_
   rotate_left
   (focus (intro wq hSw;have hSw:Below w8.heap.size w8 wq:=hSw;have h8:=keep_cell hSw hC8;have h9:=keep_cell hSw hC9;go_simp;(try with_reducible rfl)))
   refine zb2zs1 ?_
   refine wpAnyT_take (i:=21) (v:=?_) rfl z0a z0a z0a z0a z0a (fun _ _ _ h=>h) (Or.inl ⟨by rfl,?_⟩) hHeld ?_
   rotate_left
   (focus (intro wq hSw;have hSw:Below w8.heap.size w8 wq:=hSw;have h8:=keep_cell hSw hC8;have h9:=keep_cell hSw hC9;go_simp;(try with_reducible rfl)))
   refine zb2zs1 ?_
   refine wpAnyT_take (i:=22) (v:=?_) rfl z0a z0a z0a z0a z0a (fun _ _ _ h=>h) (Or.inl ⟨by rfl,?_⟩) hHeld ?_
   rotate_left
   (focus (intro wq hSw;have hSw:Below w8.heap.size w8 wq:=hSw;have h8:=keep_cell hSw hC8;have h9:=keep_cell hSw hC9;go_simp;(try with_reducible rfl)))
   refine zb2zs1 ?_
   refine wpAnyT_lit (fuel':=9) (listed':=#[false,true,true,true,true,false,true,true,true,true,true,false,false,true,true,true,true,false,true,true,true,true,true,false,false,false,false]) z0a z0a ?_
   refine zb2zs1 ?_
   refine wpAnyT_ready (rs:=[0,12,25]) z0a z0f ?_
   refine AllReadyT.cons rfl (fun KK hK=>?_) (AllReadyT.cons rfl (fun KK hK=>?_) (AllReadyT.cons rfl (fun KK hK=>?_) AllReadyT.nil))
   ·go_simp
    have hA:Below w8.heap.size w8 (w8.alloc (.cells #[] 9)):=below_alloc (Below.refl _ _) _
    refine hK.out _ _ (fun _=>below_trans hHeld hA) (fun _=>?_)
    clear hK KK
    have RK:(w8.alloc (.cells #[] 9)).ownsRow w8.heap.size 9 1 (.slice (some ⟨w8.heap.size,0,none⟩) 0 0) 0 []:=World.ownsRow_made w8 #[] 0 hHeld.size z0e rfl
    have IK:InBlock (.slice (some ⟨w8.heap.size,0,none⟩) 0 0) 0:=⟨_,_,rfl⟩
    obtain ⟨vk,hv⟩:∃ v,Value.slice (some ⟨w8.heap.size,0,none⟩) 0 0=v:=⟨_,rfl⟩
    rw [hv] at RK IK ⊢
    clear hv
    have RK2:=Lib.hid RK
    clear RK
    have RK:=RK2
    clear RK2
    have hH2:=below_trans hHeld hA
    clear hHeld hA
    obtain ⟨wq,hwq⟩:∃ x,w8.alloc (.cells #[] 9)=x:=⟨_,rfl⟩
    rw [hwq] at hH2 RK ⊢
    clear hwq
    have hHeld:=hH2
    clear hH2
    exact pa_100
   ·go_simp
    have hA:Below w8.heap.size w8 (w8.alloc (.cells #[] 31)):=below_alloc (Below.refl _ _) _
    refine hK.out _ _ (fun _=>below_trans hHeld hA) (fun _=>?_)
    clear hK KK
    have RL:(w8.alloc (.cells #[] 31)).ownsRow w8.heap.size 31 10 (.slice (some ⟨w8.heap.size,0,none⟩) 0 0) 0 []:=World.ownsRow_made w8 #[] 0 hHeld.size z0e rfl
    have IL:InBlock (.slice (some ⟨w8.heap.size,0,none⟩) 0 0) 0:=⟨_,_,rfl⟩
    obtain ⟨vl,hv⟩:∃ v,Value.slice (some ⟨w8.heap.size,0,none⟩) 0 0=v:=⟨_,rfl⟩
    rw [hv] at RL IL ⊢
    clear hv
    have RL2:=Lib.hid RL
    clear RL
    have RL:=RL2
    clear RL2
    have hH2:=below_trans hHeld hA
    clear hHeld hA
    obtain ⟨wq,hwq⟩:∃ x,w8.alloc (.cells #[] 31)=x:=⟨_,rfl⟩
    rw [hwq] at hH2 RL ⊢
    clear hwq
    have hHeld:=hH2
    clear hH2
    exact pa_010
   ·go_simp
    have hA:Below w8.heap.size w8 (w8.alloc (.cells #[.int .i64 0,.bool false,.int .u64 0,.int .u64 0,.int .u64 0,.int .u64 0,.int .u64 0,.string ⟨#[]⟩,.slice none 0 0,.slice none 0 0] 31)):=below_alloc (Below.refl _ _) _
    refine hK.out _ _ (fun _=>below_trans hHeld hA) (fun _=>?_)
    clear hK KK
    have Z:Hid (WBx (w8.alloc (.cells #[.int .i64 0,.bool false,.int .u64 0,.int .u64 0,.int .u64 0,.int .u64 0,.int .u64 0,.string ⟨#[]⟩,.slice none 0 0,.slice none 0 0] 31)) w8.heap.size (.int .i64 0) (.bool false) (.int .u64 0) (.int .u64 0) (.int .u64 0) (.int .u64 0) (.int .u64 0) (.string ⟨#[]⟩) (.slice none 0 0) (.slice none 0 0)):=Lib.hid ⟨⟨by simp [go_sem]⟩,fun j=>by simp [go_sem]⟩
    obtain ⟨Bw,hv⟩:∃ b,w8.heap.size=b:=⟨_,rfl⟩
    have hBw:w8.heap.size≤Bw:=by have:=hHeld.size;omega
    have hp:Value.pointer (some ⟨w8.heap.size,0,none⟩)=Value.pointer (some ⟨Bw,0,none⟩):=by rw [hv]
    rw [hp]
    rw [hv] at Z
    clear hp hv
    have hBq:Bw < (w8.alloc (.cells #[.int .i64 0,.bool false,.int .u64 0,.int .u64 0,.int .u64 0,.int .u64 0,.int .u64 0,.string ⟨#[]⟩,.slice none 0 0,.slice none 0 0] 31)).heap.size:=Z.out.lt
    have hH2:=below_trans hHeld hA
    clear hHeld hA
    obtain ⟨wq,hwq⟩:∃ x,w8.alloc (.cells #[.int .i64 0,.bool false,.int .u64 0,.int .u64 0,.int .u64 0,.int .u64 0,.int .u64 0,.string ⟨#[]⟩,.slice none 0 0,.slice none 0 0] 31)=x:=⟨_,rfl⟩
    rw [hwq] at hH2 Z hBq ⊢
    clear hwq
    have hHeld:=hH2
    clear hH2
    exact pa_001
end Go.Proofs.YtfondldmmcmloaaGreatDoor
