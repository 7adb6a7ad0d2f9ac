/- Ld5. -/
import Derived.Test.YtfondldmmcmloaaDoorPd24
set_option maxRecDepth 1000000
set_option maxHeartbeats 8000000
namespace Go.Proofs.YtfondldmmcmloaaDoor
open Go Go.RowKit
theorem z25zs1 {p q:Prop} (h:q) (e:q→p:=by intro hq;(try simp only [Act.put,List.setIfInBounds_toArray,List.set_cons_zero,List.set_cons_succ,List.getElem_toArray,List.getElem_cons_succ,List.getElem_cons_zero]);exact hq):p:=e h
theorem z25zs2 {p q:Prop} (h:q) (e:q→p:=by intro hq;simp only [Act.put,List.setIfInBounds_toArray,List.set_cons_zero,List.set_cons_succ,List.getElem_toArray,List.getElem_cons_succ,List.getElem_cons_zero];exact hq):p:=e h
end Go.Proofs.YtfondldmmcmloaaDoor
namespace Go.Proofs.YtfondldmmcmloaaDoor
open Go Go.RowKit
theorem infoInt:(Tryd.prog.info? 3).map (fun i=>(i.zero,i.size,i.bytes))=some (some (.int .i64 0),1,8):=by kernel_rfl
theorem oneC_int {x:Int}:∀ u ∈ [Value.int .i64 x],u.oneCell'=true:=by
 intro u hu
 rw [List.mem_singleton] at hu
 subst hu
 rfl
theorem kind_run (x y:Value) (w:World):(Instr.field 58 (.agg #[x,y]) 0).run Tryd.prog w=.ok x w:=by kernel_rfl
theorem Res_any (B:Nat) (a:Option Addr) (n c:Nat) (r:Rd) (m:MB) (K:Nat→Int) (S:Nat→ByteArray) (w0 w:World) (vF vN vS:Value) (hM:MsI w0 B w m vF vN vS) (hP:PBx w B a n c r.i r.bad) (hT:TIn w0 a n c K S) (ha:∀ ad,a=some ad→ad.block < w0.heap.size∧ad.block≠B)
  (hD:DigT K S n) (hn:n≤8192) (_hb:r.bad=false) (hl:LenI n r m) :
  Calls Tryd.prog 16 #[.pointer (some ⟨B,0,none⟩),.pointer (some ⟨w0.heap.size,0,none⟩)] w fun e w'=>e=.returned (.tuple #[]) ∧
   ∃ vN' vS':Value,MsI w0 B w' (resT K S n r m).2 vF vN' vS'∧PBx w' B a n c (resT K S n r m).1.i (resT K S n r m).1.bad∧LenI n (resT K S n r m).1 (resT K S n r m).2:=by
 have HT:=Lib.hid fun wx (hx:But B B w0 wx)=>hT.but hx fun ad e=>⟨(ha ad e).2,(ha ad e).2⟩
 have CA:Hid (Calls Tryd.prog 25 #[.pointer (some ⟨B,0,none⟩),.int .i64 0] w fun e w'=>e=.returned (.agg #[.int .i64 (tokK K n r.i),.string (tokS S n r.i)])∧Below w.heap.size w w'):=Lib.hid (At_any B a n c r.i r.bad K S 0 w hP (HT.out w hM.b) (by have:=hl.1;omega) z0b)
 have CI:=Lib.hid fun (r:Rd) (wx:World) (h1:PBx wx B a n c r.i r.bad) (h2:But B B w0 wx) (h3:r.i≤n) (k:Int) (s:ByteArray)=>Is_any B a n c r.i r.bad K S k s wx h1 (HT.out wx h2) z0b
 have CT:=Lib.hid fun (r:Rd) (wx:World) (h1:PBx wx B a n c r.i r.bad) (h2:But B B w0 wx) (h3:r.i≤n) (k:Int) (s:ByteArray)=>Take_any B a n c r.i r.bad K S k s wx h1 (HT.out wx h2) z0b
 have CW:=Lib.hid fun (r:Rd) (wx:World) (h1:PBx wx B a n c r.i r.bad) (h2:But B B w0 wx) (h3:r.i≤n)=>Word_any B a n c r.i r.bad K S 3 wx h1 (HT.out wx h2) z0b
 have CN:=Lib.hid fun (r:Rd) (wx:World) (h1:PBx wx B a n c r.i r.bad) (h2:But B B w0 wx) (h3:r.i≤n)=>Number22_any B a n c r.i r.bad K S wx h1 (HT.out wx h2) z0b (r.text K S n 2) rfl (rd_digits hD r).1 (rd_digits hD r).2
 have HM:=Lib.hid hM
 have HP:=Lib.hid hP
 have HL:=Lib.hid hl
 obtain ⟨q,hq⟩:∃ q,(tokK K n r.i == 3)=q:=⟨_,rfl⟩
 obtain ⟨kd,hkd⟩:∃ kd,tokK K n r.i=kd:=⟨_,rfl⟩
 have hq2:(kd == 3)=q:=by rw [← hkd];exact hq
 rw [hkd] at CA
 unfold resT
 rw [hq]
 clear hT hM hP hl hD hkd hq
 go_enter Tryd.func16,Tryd.ntmps16
 repeat any_goals (first|(go_at_call 25;with_reducible refine CA.out.mono ?_;rintro e w1 ⟨rfl,hw1⟩;have HW1:=Lib.hid hw1;clear hw1)|(rw [kind_run];simp only [Result.andThen_ok])|go_skip|go_guarded|go_step|go_upon|(dsimp only []))
 go_loopw [8] (fun _ wq=>∃ (f:Nat) (r1:Rd) (m1:MB) (vN1 vS1:Value),MsI w0 B wq m1 vF vN1 vS1∧PBx wq B a n c r1.i r1.bad∧LenI n r1 m1∧resL K S n q f r1 m1=resL K S n q (n+1) r m∧n - r1.i < f) (fun _ wq=>n - atI wq B)
 case atStart=>exact ⟨n+1,r,m,vN,vS,HM.out.but (But.of HW1.out),HP.out.below HW1.out,HL.out,rfl,by omega⟩
 case round=>
  obtain ⟨f,⟨i1,b1⟩,m1,vN1,vS1,hM1,hP1,hL1,hE,hf⟩:=hrel
  obtain ⟨p0,p1,p2⟩:=hP1.c
  have hM2:=hM1.c
  have hfM:=hM1.f
  have CT1:=Lib.hid (CT.out ⟨i1,b1⟩ wr hP1 hM1.b hL1.1 4 ⟨#[59]⟩)
  cases f with
  | zero=>omega
  | succ f=>
  cases b1 with
  | true=>
   have HM1:=Lib.hid hM1
   have HL1:=Lib.hid hL1
   have HE:=Lib.hid hE
   clear hM1 hL1 hE hP1 hM2 hfM hf
   repeat any_goals (first|(go_at_call 13;with_reducible refine CT1.out.mono ?_;rintro e w2 ⟨rfl,hp2,hq2⟩)|go_skip|go_guarded|go_step|go_upon|(dsimp only []))
   have e:resL K S n q (n+1) r m=(⟨i1,true⟩,m1):=by rw [← HE.out];rfl
   rw [e]
   exact bodyPost_end (v:=.tuple #[]) (by simp [results,Tryd.results16,go_sem]) rfl ⟨rfl,vN1,vS1,HM1.out.but hq2,hp2,HL1.out.take 4 z0g _⟩
  | false=>
   have HM1:=Lib.hid hM1
   have HP1:=Lib.hid hP1
   have HL1:=Lib.hid hL1
   have HE:=Lib.hid hE
   have CW1:=Lib.hid fun wx (h1:PBx wx B a n c i1 false) (h2:But B B w0 wx)=>CW.out ⟨i1,false⟩ wx h1 h2 hL1.1
   have CN1:=Lib.hid fun wx (h1:PBx wx B a n c i1 false) (h2:But B B w0 wx)=>CN.out ⟨i1,false⟩ wx h1 h2 hL1.1
   clear hM1 hL1 hE hP1 hM2 hfM
   cases q with
   | true=>
    have k1:kd=3:=eq_of_beq hq2
    subst k1
    go_upto_region 3 with fail
    have hS0:wr.drew.cell? ⟨w0.heap.size,3,none⟩=some vS1:=HM1.out.c.2.2.2
    refine wp_region_late (fun w'=>w'.cell? ⟨w0.heap.size,3,none⟩=some vS1) (fun i=>decide (9≤i)) z0a hS0 (fun hHeld=>?_)
    clear hS0
    refine wpAnyT_take (i:=0) (v:=?_) rfl z0a z0a z0a z0a z0a (fun _ _ _ h=>h) (Or.inl ⟨by rfl,?_⟩) hHeld ?_
    rotate_left
    (focus (intro wq hSw;have hSw:wq.cell? ⟨w0.heap.size,3,none⟩=some vS1:=hSw;go_simp;(try with_reducible rfl)))
    simp only [Act.put,List.setIfInBounds_toArray,List.set_cons_zero,List.set_cons_succ,List.getElem_toArray,List.getElem_cons_zero]
    refine wpAnyT_take (i:=1) (v:=?_) rfl z0a z0a z0a z0a z0a (fun _ _ _ h=>h) (Or.inl ⟨by rfl,?_⟩) hHeld ?_
    rotate_left
    (focus (intro wq hSw;have hSw:wq.cell? ⟨w0.heap.size,3,none⟩=some vS1:=hSw;go_simp;(try with_reducible rfl)))
    refine z25zs2 ?_
    refine wpAnyT_take (i:=2) (v:=?_) rfl z0a z0a z0a z0a z0a (fun _ _ _ h=>h) (Or.inl ⟨by rfl,?_⟩) hHeld ?_
    rotate_left
    (focus (intro wq hSw;have hSw:wq.cell? ⟨w0.heap.size,3,none⟩=some vS1:=hSw;go_simp;(try with_reducible rfl)))
    refine z25zs2 ?_
    refine wpAnyT_take (i:=3) (v:=?_) rfl z0a z0a z0a z0a z0a (fun _ _ _ h=>h) (Or.inl ⟨by rfl,?_⟩) hHeld ?_
    rotate_left
    (focus (intro wq hSw;have hSw:wq.cell? ⟨w0.heap.size,3,none⟩=some vS1:=hSw;go_simp;(try with_reducible rfl)))
    refine z25zs2 ?_
    refine wpAnyT_take (i:=4) (v:=?_) rfl z0a z0a z0a z0a z0a (fun _ _ _ h=>h) (Or.inl ⟨by rfl,?_⟩) hHeld ?_
    rotate_left
    (focus (intro wq hSw;have hSw:wq.cell? ⟨w0.heap.size,3,none⟩=some vS1:=hSw;go_simp;(try with_reducible rfl)))
    refine z25zs2 ?_
    refine wpAnyT_take (i:=5) (v:=?_) rfl z0a z0a z0a z0a z0a (fun _ _ _ h=>h) (Or.inl ⟨by rfl,?_⟩) hHeld ?_
    rotate_left
    (focus (intro wq hSw;have hSw:wq.cell? ⟨w0.heap.size,3,none⟩=some vS1:=hSw;go_simp;(try with_reducible rfl)))
    refine z25zs2 ?_
    refine z25zs1 ?_
    refine wpAnyT_ready (rs:=[6]) z0a z0c ?_
    refine AllReadyT.cons rfl (fun KK hK=>?_) AllReadyT.nil
    go_simp
    (go_at_call 14;with_reducible refine (CW1.out _ (HP1.out.below (Below.refl _ _).drew) (HM1.out.b.trans2 (But.of (Below.refl _ _).drew))).mono ?_;rintro e w2 ⟨rfl,hp2,hq2⟩)
    have M2:=Lib.hid (HM1.out.but ((But.of (Below.refl _ _).drew).trans2 hq2))
    obtain ⟨X,hX⟩:∃ x,Rd.text K S n ⟨i1,false⟩ 3=x:=⟨_,rfl⟩
    change (if wordB K n i1 false 3=true then tokS S n i1 else ⟨#[]⟩)=X at hX
    rw [hX]
    refine hK.out _ _ (fun _=>M2.out.c.2.2.2) (fun _=>?_)
    clear hK KK hHeld
    have hHeld:=M2.out.c.2.2.2
    refine z25zs1 ?_
    refine wpAnyT_ready (rs:=[7]) z0a z0c ?_
    refine AllReadyT.cons rfl (fun KK hK=>?_) AllReadyT.nil
    go_simp
    have hA:Below w2.heap.size w2 (w2.alloc (.cells #[.string X] 9)):=below_alloc (Below.refl _ _) _
    refine hK.out _ _ (fun _=>(M2.out.but (But.of hA)).c.2.2.2) (fun _=>?_)
    clear hK KK
    have OS:=rows_below M2.out.oS (show Below w2.heap.size w2 (w2.alloc (.cells #[.string X] 9)) from below_alloc (Below.refl _ _) _)
    obtain ⟨iS,hiS,hsS0,hsS1,hsS2⟩:=info_parts infoStr
    have hln:m1.S.length≤n:=by have:=HL1.out.2.2.1;have:=HL1.out.1;simp at *;omega
    have hbl:=M2.out.bl
    refine z25zs1 ?_
    refine wpAnyT_ready (rs:=[8]) z0a z0c ?_
    refine AllReadyT.cons rfl (fun KK hK=>?_) AllReadyT.nil
    refine step_append_at rfl (.tmp 19) (.tmp 22) 23 rfl (w0.heap.size+1) 9 iS (.string ⟨#[]⟩) 1 16 Tryd.underlying23 hiS hsS0 hsS1 hsS2 rfl z0g vS1 m1.S.length (rowPS m1.S) z0f OS ⟨w2.heap.size,0,none⟩ 1 1 [.string X] z0f rfl (news_one (by simp [go_sem])) oneC_str z0o z0b (by simp;omega) ?_
    intro vS2 w3 own3 hg3 hn3
    obtain ⟨gS,cS,rfl⟩:=own_lit own3 z0b
    have AP:=Lib.hid (ap1_of (below_alloc (Below.refl w2.heap.size w2) _) hg3 own3)
    have hne:some w0.heap.size≠vS1.ownBlock:=fun c=>by have:=(M2.out.oS.lt _ c.symm).1;omega
    have hk3:=AP.out.block _ hbl hne
    have hc3:w3.cell? ⟨w0.heap.size,3,none⟩=some vS1:=(World.cell?_of_block (a:=⟨w0.heap.size,3,none⟩) hk3).trans M2.out.c.2.2.2
    have hf3:∀ j,w3.frozen? ⟨w0.heap.size,j,none⟩=false:=fun j=>(World.frozen?_of_block (a:=⟨w0.heap.size,j,none⟩) hk3).trans (M2.out.f j)
    have hl3:w0.heap.size < w3.heap.size:=Nat.lt_of_lt_of_le hbl AP.out.size
    refine hK.out _ _ (fun _=>hc3) (fun _=>?_)
    clear hK KK hHeld
    refine z25zs1 ?_
    refine wpAnyT_ready (rs:=[9]) z0a z0c ?_
    refine AllReadyT.cons rfl (fun KK hK=>?_) AllReadyT.nil
    go_simp
    refine hK.out _ _ (fun h=>z0s) (fun _=>?_)
    clear hK KK
    refine z25zs1 ?_
    refine wpAnyT_ready (rs:=[10]) z0a z0c ?_
    refine AllReadyT.cons rfl (fun KK hK=>?_) AllReadyT.nil
    go_simp
    refine hK.out _ _ (fun h=>z0s) (fun _=>?_)
    clear hK KK
    refine z25zs1 ?_
    refine wpAnyT_ready (rs:=[11]) z0a z0c ?_
    refine AllReadyT.cons rfl (fun KK hK=>?_) AllReadyT.nil
    go_simp
    refine hK.out _ _ (fun h=>z0s) (fun _=>?_)
    clear hK KK
    refine z25zs1 ?_
    refine wpAnyT_done z0a ?_ _
    refine NoPanic.normal ?_
    have M3:=Lib.hid (M2.out.pushS X AP.out)
    have hBl:=HM1.out.lt
    have P3:=Lib.hid (PBx.same hp2 (w1:=w3.setCell ⟨w0.heap.size,3,none⟩ (.slice (some ⟨gS,0,none⟩) (m1.S.length+1) cS)) ((block_setCell z0b).trans (AP.out.block B hp2.lt (fun c=>by have:=(M2.out.oS.lt _ c.symm).1;omega))))
    obtain ⟨w5,hw5⟩:∃ x,w3.setCell ⟨w0.heap.size,3,none⟩ (.slice (some ⟨gS,0,none⟩) (m1.S.length+1) cS)=x:=⟨_,rfl⟩
    rw [hw5] at M3 P3 ⊢
    obtain ⟨r3,hr3⟩:∃ x,Rd.word K n ⟨i1,false⟩ 3=x:=⟨_,rfl⟩
    have P4:Hid (PBx w5 B a n c r3.i r3.bad):=by rw [← hr3];exact P3
    have hr3n:r3.i≤n:=by rw [← hr3];exact rd_word_le z0g HL1.out.1
    have hr3g:i1≤r3.i:=by rw [← hr3];exact word_ge ⟨i1,false⟩ 3
    have L4:Hid (LenI n r3 { m1 with S:=m1.S ++ [X] }):=by rw [← hr3];exact Lib.hid (HL1.out.word rfl 3 z0g z0c z0c z0c)
    have hE4:=resL_go (K:=K) (S:=S) (n:=n) (r:=⟨i1,false⟩) (m:=m1) true f rfl
    simp only [if_true] at hE4
    rw [hr3,show Rd.text K S n ⟨i1,false⟩ 3=X from hX,HE.out] at hE4
    have E4:=Lib.hid hE4
    clear hE4 hw5 P3 hg3 own3 hn3 hc3 hk3 hf3 hp2 AP M2 OS
    have CI1:=Lib.hid (CI.out r3 w5 P4.out M3.out.b hr3n 4 ⟨#[44]⟩)
    obtain ⟨_,_,_⟩:=P4.out.c
    obtain ⟨t,ht⟩:∃ x,isB K S n r3.i r3.bad 4 ⟨#[44]⟩=x:=⟨_,rfl⟩
    rw [ht] at CI1
    cases t with
    | true=>
     repeat any_goals (first|(go_at_call 15;with_reducible refine CI1.out.mono ?_;rintro e w6 ⟨rfl,hp6,hq6⟩)|go_skip|go_guarded|go_step|go_upon|(dsimp only []))
     have hi7:(r3.pass K S n 4 ⟨#[44]⟩).i=r3.i+1:=pass_i ht
     have P6:PBx w6 B a n c (r3.pass K S n 4 ⟨#[44]⟩).i (r3.pass K S n 4 ⟨#[44]⟩).bad:=by rw [hi7];exact hp6
     have hlt:r3.i < n:=is_lt z0g ht
     go_roundw
     case rel=>exact ⟨f,r3.pass K S n 4 ⟨#[44]⟩,{ m1 with S:=m1.S ++ [X] },vN1,_,M3.out.but hq6,P6,L4.out.pass 4 z0g _,(E4.out.trans (if_pos ht)).symm,by rw [hi7];simp at hf;omega⟩
     case measure=>
      rw [atI_of P6,atI_of HP1.out]
      show n - (r3.pass K S n 4 ⟨#[44]⟩).i < n - i1
      rw [hi7]
      omega
    | false=>
     repeat any_goals (first|(go_at_call 15;with_reducible refine CI1.out.mono ?_;rintro e w6 ⟨rfl,hp6,hq6⟩;have P6:Hid (PBx w6 B a n c r3.i r3.bad):=Lib.hid (by simpa using hp6);have M6:=Lib.hid (M3.out.but hq6))|(go_at_call 13;with_reducible refine (CT.out r3 w6 P6.out M6.out.b hr3n 4 ⟨#[59]⟩).mono ?_;rintro e w7 ⟨rfl,hp7,hq7⟩)|go_skip|go_guarded|go_step|go_upon|(dsimp only []))
     have e:resL K S n true (n+1) r m=(r3,{ m1 with S:=m1.S ++ [X] }):=E4.out.trans (if_neg (fun h=>by have:=ht.symm.trans h;cases this))
     rw [e]
     exact bodyPost_end (v:=.tuple #[]) (by simp [results,Tryd.results16,go_sem]) rfl ⟨rfl,vN1,_,M6.out.but hq7,hp7,L4.out.take 4 z0g _⟩
   | false=>
    have k1:¬ kd=3:=fun h=>by rw [h] at hq2;simp at hq2
    go_upto_region 4 with fail
    have hS0:wr.drew.cell? ⟨w0.heap.size,2,none⟩=some vN1:=HM1.out.c.2.2.1
    refine wp_region_late (fun w'=>w'.cell? ⟨w0.heap.size,2,none⟩=some vN1) (fun i=>decide (9≤i)) z0a hS0 (fun hHeld=>?_)
    clear hS0
    refine wpAnyT_take (i:=0) (v:=?_) rfl z0a z0a z0a z0a z0a (fun _ _ _ h=>h) (Or.inl ⟨by rfl,?_⟩) hHeld ?_
    rotate_left
    (focus (intro wq hSw;have hSw:wq.cell? ⟨w0.heap.size,2,none⟩=some vN1:=hSw;go_simp;(try with_reducible rfl)))
    simp only [Act.put,List.setIfInBounds_toArray,List.set_cons_zero,List.set_cons_succ,List.getElem_toArray,List.getElem_cons_zero]
    refine wpAnyT_take (i:=1) (v:=?_) rfl z0a z0a z0a z0a z0a (fun _ _ _ h=>h) (Or.inl ⟨by rfl,?_⟩) hHeld ?_
    rotate_left
    (focus (intro wq hSw;have hSw:wq.cell? ⟨w0.heap.size,2,none⟩=some vN1:=hSw;go_simp;(try with_reducible rfl)))
    refine z25zs2 ?_
    refine wpAnyT_take (i:=2) (v:=?_) rfl z0a z0a z0a z0a z0a (fun _ _ _ h=>h) (Or.inl ⟨by rfl,?_⟩) hHeld ?_
    rotate_left
    (focus (intro wq hSw;have hSw:wq.cell? ⟨w0.heap.size,2,none⟩=some vN1:=hSw;go_simp;(try with_reducible rfl)))
    refine z25zs2 ?_
    refine wpAnyT_take (i:=3) (v:=?_) rfl z0a z0a z0a z0a z0a (fun _ _ _ h=>h) (Or.inl ⟨by rfl,?_⟩) hHeld ?_
    rotate_left
    (focus (intro wq hSw;have hSw:wq.cell? ⟨w0.heap.size,2,none⟩=some vN1:=hSw;go_simp;(try with_reducible rfl)))
    refine z25zs2 ?_
    refine wpAnyT_take (i:=4) (v:=?_) rfl z0a z0a z0a z0a z0a (fun _ _ _ h=>h) (Or.inl ⟨by rfl,?_⟩) hHeld ?_
    rotate_left
    (focus (intro wq hSw;have hSw:wq.cell? ⟨w0.heap.size,2,none⟩=some vN1:=hSw;go_simp;(try with_reducible rfl)))
    refine z25zs2 ?_
    refine wpAnyT_take (i:=5) (v:=?_) rfl z0a z0a z0a z0a z0a (fun _ _ _ h=>h) (Or.inl ⟨by rfl,?_⟩) hHeld ?_
    rotate_left
    (focus (intro wq hSw;have hSw:wq.cell? ⟨w0.heap.size,2,none⟩=some vN1:=hSw;go_simp;(try with_reducible rfl)))
    refine z25zs2 ?_
    refine z25zs1 ?_
    refine wpAnyT_ready (rs:=[6]) z0a z0c ?_
    refine AllReadyT.cons rfl (fun KK hK=>?_) AllReadyT.nil
    go_simp
    (go_at_call 26;with_reducible refine (CN1.out _ (HP1.out.below (Below.refl _ _).drew) (HM1.out.b.trans2 (But.of (Below.refl _ _).drew))).mono ?_;rintro e w2 ⟨rfl,hp2,hq2⟩)
    have M2:=Lib.hid (HM1.out.but ((But.of (Below.refl _ _).drew).trans2 hq2))
    obtain ⟨X,hX⟩:∃ x,Rd.num K S n ⟨i1,false⟩=x:=⟨_,rfl⟩
    change valN (Rd.text K S n ⟨i1,false⟩ 2) (Rd.text K S n ⟨i1,false⟩ 2).size=X at hX
    rw [hX]
    refine hK.out _ _ (fun _=>M2.out.c.2.2.1) (fun _=>?_)
    clear hK KK hHeld
    have hHeld:=M2.out.c.2.2.1
    refine z25zs1 ?_
    refine wpAnyT_ready (rs:=[7]) z0a z0c ?_
    refine AllReadyT.cons rfl (fun KK hK=>?_) AllReadyT.nil
    go_simp
    have hA:Below w2.heap.size w2 (w2.alloc (.cells #[.int .i64 (X:Nat)] 3)):=below_alloc (Below.refl _ _) _
    refine hK.out _ _ (fun _=>(M2.out.but (But.of hA)).c.2.2.1) (fun _=>?_)
    clear hK KK
    have OS:=rows_below M2.out.oN (show Below w2.heap.size w2 (w2.alloc (.cells #[.int .i64 (X:Nat)] 3)) from below_alloc (Below.refl _ _) _)
    obtain ⟨iS,hiS,hsS0,hsS1,hsS2⟩:=info_parts infoInt
    have hln:m1.N.length≤n:=by have:=HL1.out.2.1;have:=HL1.out.1;simp at *;omega
    have hbl:=M2.out.bl
    refine z25zs1 ?_
    refine wpAnyT_ready (rs:=[8]) z0a z0c ?_
    refine AllReadyT.cons rfl (fun KK hK=>?_) AllReadyT.nil
    refine step_append_at rfl (.tmp 30) (.tmp 33) 53 rfl (w0.heap.size+1) 3 iS (.int .i64 0) 1 8 Tryd.underlying53 hiS hsS0 hsS1 hsS2 rfl z0g vN1 m1.N.length (rowPN m1.N) z0f OS ⟨w2.heap.size,0,none⟩ 1 1 [.int .i64 (X:Nat)] z0f rfl (news_one (by simp [go_sem])) oneC_int z0o z0b (by simp;omega) ?_
    intro vS2 w3 own3 hg3 hn3
    obtain ⟨gS,cS,rfl⟩:=own_lit own3 z0b
    have AP:=Lib.hid (ap1_of (below_alloc (Below.refl w2.heap.size w2) _) hg3 own3)
    have hne:some w0.heap.size≠vN1.ownBlock:=fun c=>by have:=(M2.out.oN.lt _ c.symm).1;omega
    have hk3:=AP.out.block _ hbl hne
    have hc3:w3.cell? ⟨w0.heap.size,2,none⟩=some vN1:=(World.cell?_of_block (a:=⟨w0.heap.size,2,none⟩) hk3).trans M2.out.c.2.2.1
    have hf3:∀ j,w3.frozen? ⟨w0.heap.size,j,none⟩=false:=fun j=>(World.frozen?_of_block (a:=⟨w0.heap.size,j,none⟩) hk3).trans (M2.out.f j)
    have hl3:w0.heap.size < w3.heap.size:=Nat.lt_of_lt_of_le hbl AP.out.size
    refine hK.out _ _ (fun _=>hc3) (fun _=>?_)
    clear hK KK hHeld
    refine z25zs1 ?_
    refine wpAnyT_ready (rs:=[9]) z0a z0c ?_
    refine AllReadyT.cons rfl (fun KK hK=>?_) AllReadyT.nil
    go_simp
    refine hK.out _ _ (fun h=>z0s) (fun _=>?_)
    clear hK KK
    refine z25zs1 ?_
    refine wpAnyT_ready (rs:=[10]) z0a z0c ?_
    refine AllReadyT.cons rfl (fun KK hK=>?_) AllReadyT.nil
    go_simp
    refine hK.out _ _ (fun h=>z0s) (fun _=>?_)
    clear hK KK
    refine z25zs1 ?_
    refine wpAnyT_ready (rs:=[11]) z0a z0c ?_
    refine AllReadyT.cons rfl (fun KK hK=>?_) AllReadyT.nil
    go_simp
    refine hK.out _ _ (fun h=>z0s) (fun _=>?_)
    clear hK KK
    refine z25zs1 ?_
    refine wpAnyT_done z0a ?_ _
    refine NoPanic.normal ?_
    have M3:=Lib.hid (M2.out.pushN X AP.out)
    have hBl:=HM1.out.lt
    have P3:=Lib.hid (PBx.same hp2 (w1:=w3.setCell ⟨w0.heap.size,2,none⟩ (.slice (some ⟨gS,0,none⟩) (m1.N.length+1) cS)) ((block_setCell z0b).trans (AP.out.block B hp2.lt (fun c=>by have:=(M2.out.oN.lt _ c.symm).1;omega))))
    obtain ⟨w5,hw5⟩:∃ x,w3.setCell ⟨w0.heap.size,2,none⟩ (.slice (some ⟨gS,0,none⟩) (m1.N.length+1) cS)=x:=⟨_,rfl⟩
    rw [hw5] at M3 P3 ⊢
    obtain ⟨r3,hr3⟩:∃ x,Rd.word K n ⟨i1,false⟩ 2=x:=⟨_,rfl⟩
    have P4:Hid (PBx w5 B a n c r3.i r3.bad):=by rw [← hr3];exact P3
    have hr3n:r3.i≤n:=by rw [← hr3];exact rd_word_le z0g HL1.out.1
    have hr3g:i1≤r3.i:=by rw [← hr3];exact word_ge ⟨i1,false⟩ 2
    have L4:Hid (LenI n r3 { m1 with N:=m1.N ++ [X] }):=by rw [← hr3];exact Lib.hid (HL1.out.word rfl 2 z0g z0c z0c z0c)
    have hE4:=resL_go (K:=K) (S:=S) (n:=n) (r:=⟨i1,false⟩) (m:=m1) false f rfl
    simp only [Bool.false_eq_true,if_false] at hE4
    rw [hr3,show Rd.num K S n ⟨i1,false⟩=X from hX,HE.out] at hE4
    have E4:=Lib.hid hE4
    clear hE4 hw5 P3 hg3 own3 hn3 hc3 hk3 hf3 hp2 AP M2 OS
    have CI1:=Lib.hid (CI.out r3 w5 P4.out M3.out.b hr3n 4 ⟨#[44]⟩)
    obtain ⟨_,_,_⟩:=P4.out.c
    obtain ⟨t,ht⟩:∃ x,isB K S n r3.i r3.bad 4 ⟨#[44]⟩=x:=⟨_,rfl⟩
    rw [ht] at CI1
    cases t with
    | true=>
     repeat any_goals (first|(go_at_call 15;with_reducible refine CI1.out.mono ?_;rintro e w6 ⟨rfl,hp6,hq6⟩)|go_skip|go_guarded|go_step|go_upon|(dsimp only []))
     have hi7:(r3.pass K S n 4 ⟨#[44]⟩).i=r3.i+1:=pass_i ht
     have P6:PBx w6 B a n c (r3.pass K S n 4 ⟨#[44]⟩).i (r3.pass K S n 4 ⟨#[44]⟩).bad:=by rw [hi7];exact hp6
     have hlt:r3.i < n:=is_lt z0g ht
     go_roundw
     case rel=>exact ⟨f,r3.pass K S n 4 ⟨#[44]⟩,{ m1 with N:=m1.N ++ [X] },_,vS1,M3.out.but hq6,P6,L4.out.pass 4 z0g _,(E4.out.trans (if_pos ht)).symm,by rw [hi7];simp at hf;omega⟩
     case measure=>
      rw [atI_of P6,atI_of HP1.out]
      show n - (r3.pass K S n 4 ⟨#[44]⟩).i < n - i1
      rw [hi7]
      omega
    | false=>
     repeat any_goals (first|(go_at_call 15;with_reducible refine CI1.out.mono ?_;rintro e w6 ⟨rfl,hp6,hq6⟩;have P6:Hid (PBx w6 B a n c r3.i r3.bad):=Lib.hid (by simpa using hp6);have M6:=Lib.hid (M3.out.but hq6))|(go_at_call 13;with_reducible refine (CT.out r3 w6 P6.out M6.out.b hr3n 4 ⟨#[59]⟩).mono ?_;rintro e w7 ⟨rfl,hp7,hq7⟩)|go_skip|go_guarded|go_step|go_upon|(dsimp only []))
     have e:resL K S n false (n+1) r m=(r3,{ m1 with N:=m1.N ++ [X] }):=E4.out.trans (if_neg (fun h=>by have:=ht.symm.trans h;cases this))
     rw [e]
     exact bodyPost_end (v:=.tuple #[]) (by simp [results,Tryd.results16,go_sem]) rfl ⟨rfl,_,vS1,M6.out.but hq7,hp7,L4.out.take 4 z0g _⟩
end Go.Proofs.YtfondldmmcmloaaDoor
