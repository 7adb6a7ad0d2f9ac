/- Ld6. -/
import Derived.Test.YtfondldmmcmloaaDoorPd25
set_option maxRecDepth 1000000
set_option maxHeartbeats 8000000
namespace Go.Proofs.YtfondldmmcmloaaDoor
open Go Go.RowKit
theorem z26zs1 {p q:Prop} (h:q) (e:q→p:=by intro hq;(try simp only [Act.put,List.setIfInBounds_toArray,List.set_cons_zero,List.set_cons_succ,List.getElem_toArray,List.getElem_cons_succ,List.getElem_cons_zero]);exact hq):p:=e h
theorem z26zs2 {p q:Prop} (h:q) (e:q→p:=by intro hq;simp only [Act.put,List.setIfInBounds_toArray,List.set_cons_zero,List.set_cons_succ,List.getElem_toArray,List.getElem_cons_succ,List.getElem_cons_zero];exact hq):p:=e h
theorem z26zk1 {p:Prop} (h:p:=by
 have he:headT K S n r=(((if r.is K S n 1 ⟨#[111,112,116,105,111,110,97,108]⟩=true then r.pass K S n 1 ⟨#[111,112,116,105,111,110,97,108]⟩ else (r.pass K S n 1 ⟨#[111,112,116,105,111,110,97,108]⟩).pass K S n 1 ⟨#[114,101,112,101,97,116,101,100]⟩).word K n 1),{ name:=⟨#[]⟩,type:=(if r.is K S n 1 ⟨#[111,112,116,105,111,110,97,108]⟩=true then r.pass K S n 1 ⟨#[111,112,116,105,111,110,97,108]⟩ else (r.pass K S n 1 ⟨#[111,112,116,105,111,110,97,108]⟩).pass K S n 1 ⟨#[114,101,112,101,97,116,101,100]⟩).text K S n 1,number:=0,opt:=r.is K S n 1 ⟨#[111,112,116,105,111,110,97,108]⟩,rep:=!r.is K S n 1 ⟨#[111,112,116,105,111,110,97,108]⟩ && (r.pass K S n 1 ⟨#[111,112,116,105,111,110,97,108]⟩).is K S n 1 ⟨#[114,101,112,101,97,116,101,100]⟩,map:=false }):=by unfold headT;rw [if_neg (fun h=>by first|exact absurd (HE1.out.symm.trans h.1) z0g|exact absurd (HE2.out.symm.trans h.2) z0g)]
 have C2:=Lib.hid (CI.out 1 ⟨#[111,112,116,105,111,110,97,108]⟩ r pf0)
 obtain ⟨o,ho⟩:∃ x,r.is K S n 1 ⟨#[111,112,116,105,111,110,97,108]⟩=x:=⟨_,rfl⟩
 rw [ho] at C2 he
 have h2:(r.pass K S n 1 ⟨#[111,112,116,105,111,110,97,108]⟩).i≤n:=rd_take_le z0g hrn
 go_upto_region 8 with (go_at_call 15;with_reducible refine (C2.out _ F1.out hrn).mono ?_;rintro e w2 ⟨rfl,hg⟩;have G2:=Lib.hid hg;clear hg;obtain ⟨⟨_,_,_,_,_,_⟩,hfz⟩:=G2.out.f;have hlz:=G2.out.f.lt;have hzB:=G2.out.lt)
 have F3:=Lib.hid (G2.out.setOpt o)
 clear hfz hlz hzB
 generalize (w2.setCell ⟨w.heap.size,3,none⟩ (.bool o))=w3 at *
 obtain ⟨⟨_,_,_,_,_,_⟩,hfz⟩:=F3.out.f;have hlz:=F3.out.f.lt;have hzB:=F3.out.lt
 cases o with
 | true=>
  simp only [if_true,Bool.not_true,Bool.false_and] at he
  go_upto_region 9 with fail
  have F4:=Lib.hid (F3.out.setRep false)
  clear hfz hlz hzB
  generalize (w3.setCell ⟨w.heap.size,4,none⟩ (.bool false))=w4 at *
  repeat any_goals (first|(go_at_call 14;with_reducible refine (CW.out 1 _ _ _ F4.out h2).mono ?_;rintro e w2 ⟨rfl,hg⟩;have G5:=Lib.hid hg;clear hg;obtain ⟨⟨_,_,_,_,_,_⟩,hfz⟩:=G5.out.f;have hlz:=G5.out.f.lt;have hzB:=G5.out.lt)|go_skip|go_guarded|go_step|go_upon|(dsimp only []))
  go_meet
  case rel=>rw [he];exact G5.out.setType _
 | false=>
  simp only [Bool.false_eq_true,if_false,Bool.not_false,Bool.true_and] at he
  have h3:((r.pass K S n 1 ⟨#[111,112,116,105,111,110,97,108]⟩).pass K S n 1 ⟨#[114,101,112,101,97,116,101,100]⟩).i≤n:=rd_take_le (r:=r.pass K S n 1 ⟨#[111,112,116,105,111,110,97,108]⟩) z0g h2
  go_upto_region 9 with (go_at_call 15;with_reducible refine (CI.out 1 ⟨#[114,101,112,101,97,116,101,100]⟩ _ _ _ F3.out h2).mono ?_;rintro e w2 ⟨rfl,hg⟩;have G4:=Lib.hid hg;clear hg;obtain ⟨⟨_,_,_,_,_,_⟩,hfz⟩:=G4.out.f;have hlz:=G4.out.f.lt;have hzB:=G4.out.lt)
  have F5:=Lib.hid (G4.out.setRep ((r.pass K S n 1 ⟨#[111,112,116,105,111,110,97,108]⟩).is K S n 1 ⟨#[114,101,112,101,97,116,101,100]⟩))
  clear hfz hlz hzB
  generalize (w2.setCell ⟨w.heap.size,4,none⟩ (.bool ((r.pass K S n 1 ⟨#[111,112,116,105,111,110,97,108]⟩).is K S n 1 ⟨#[114,101,112,101,97,116,101,100]⟩)))=w4 at *
  repeat any_goals (first|(go_at_call 14;with_reducible refine (CW.out 1 _ _ _ F5.out h3).mono ?_;rintro e w2 ⟨rfl,hg⟩;have G6:=Lib.hid hg;clear hg;obtain ⟨⟨_,_,_,_,_,_⟩,hfz⟩:=G6.out.f;have hlz:=G6.out.f.lt;have hzB:=G6.out.lt)|go_skip|go_guarded|go_step|go_upon|(dsimp only []))
  go_meet
  case rel=>rw [he];exact G6.out.setType _):p:=h
end Go.Proofs.YtfondldmmcmloaaDoor
namespace Go.Proofs.YtfondldmmcmloaaDoor
open Go Go.RowKit
theorem infoPF:(Tryd.prog.info? 70).map (fun i=>(i.zero,i.size,i.bytes))=some (some (.agg #[.string ⟨#[]⟩,.string ⟨#[]⟩,.int .i64 0,.bool false,.bool false,.bool false]),6,48):=by kernel_rfl
theorem oneC_pf (f:PF):∀ u ∈ f.cells,u.oneCell'=true:=by
 intro u hu
 unfold PF.cells at hu
 simp only [List.mem_cons,List.mem_nil_iff,or_false] at hu
 rcases hu with rfl|rfl|rfl|rfl|rfl|rfl <;> rfl
theorem news_six {w:World} {B:Nat} {a0 a1 a2 a3 a4 a5:Value} (h:SxF w B a0 a1 a2 a3 a4 a5):∀ j u,[a0,a1,a2,a3,a4,a5][j]? = some u→w.cell? ((⟨B,0,none⟩:Addr).add j)=some u:=by
 obtain ⟨h0,h1,h2,h3,h4,h5⟩:=h.c
 intro j u hu
 rw [addr_at,Nat.zero_add]
 match j with
 | 0=>exact h0.trans hu
 | 1=>exact h1.trans hu
 | 2=>exact h2.trans hu
 | 3=>exact h3.trans hu
 | 4=>exact h4.trans hu
 | 5=>exact h5.trans hu
 | j+6=>simp at hu
theorem Fld_any (B:Nat) (a:Option Addr) (n c:Nat) (r:Rd) (m:MB) (K:Nat→Int) (S:Nat→ByteArray) (w0 w:World) (vF vN vS:Value) (hM:MsI w0 B w m vF vN vS) (hP:PBx w B a n c r.i r.bad) (hT:TIn w0 a n c K S) (ha:∀ ad,a=some ad→ad.block < w0.heap.size∧ad.block≠B)
  (hD:DigT K S n) (hn:n≤8192) (hb:r.bad=false) (hl:LenI n r m) :
  Calls Tryd.prog 17 #[.pointer (some ⟨B,0,none⟩),.pointer (some ⟨w0.heap.size,0,none⟩)] w fun e w'=>e=.returned (.tuple #[]) ∧
   ∃ vF':Value,MsI w0 B w' (fieldT K S n r m).2 vF' vN vS∧PBx w' B a n c (fieldT K S n r m).1.i (fieldT K S n r m).1.bad∧LenI n (fieldT K S n r m).1 (fieldT K S n r m).2:=by
 have HLn:=Lib.hid (fieldT_len (K:=K) (S:=S) hl hb)
 have T:Hid (∀ wx,But B B w wx→TIn wx a n c K S):=Lib.hid fun wx hx=>hT.but (hM.b.trans2 hx) fun ad e=>⟨(ha ad e).2,(ha ad e).2⟩
 have C0:Hid (∀ (r:Rd) (f:PF) (wx:World),FdI w B a n c wx r f→r.i≤n→Calls Tryd.prog 25 #[.pointer (some ⟨B,0,none⟩),.int .i64 0] wx fun e w'=>e=.returned (.agg #[.int .i64 (tokK K n r.i),.string (tokS S n r.i)])∧Below wx.heap.size wx w'):=Lib.hid fun r f wx h h3=>At_any B a n c r.i r.bad K S 0 wx h.p (T.out wx h.b) z0b z0b
 have C1:Hid (∀ (r:Rd) (f:PF) (wx:World),FdI w B a n c wx r f→r.i≤n→Calls Tryd.prog 25 #[.pointer (some ⟨B,0,none⟩),.int .i64 1] wx fun e w'=>e=.returned (.agg #[.int .i64 (tokK K n (r.i+1)),.string (tokS S n (r.i+1))])∧Below wx.heap.size wx w'):=Lib.hid fun r f wx h h3=>At_any B a n c r.i r.bad K S 1 wx h.p (T.out wx h.b) z0b z0b
 have CI:Hid (∀ (k:Int) (s:ByteArray) (r:Rd) (f:PF) (wx:World),FdI w B a n c wx r f→r.i≤n→Calls Tryd.prog 15 #[.pointer (some ⟨B,0,none⟩),.agg #[.int .i64 k,.string s]] wx fun e w'=>e=.returned (.bool (r.is K S n k s))∧FdI w B a n c w' (r.pass K S n k s) f):=Lib.hid fun k s r f wx h h3=>(Is_any B a n c r.i r.bad K S k s wx h.p (T.out wx h.b) z0b).mono fun e w' hx=>⟨hx.1,h.step hx.2.1 hx.2.2⟩
 have CT:Hid (∀ (k:Int) (s:ByteArray) (r:Rd) (f:PF) (wx:World),FdI w B a n c wx r f→r.i≤n→Calls Tryd.prog 13 #[.pointer (some ⟨B,0,none⟩),.int .i64 k,.string s] wx fun e w'=>e=.returned (.tuple #[])∧FdI w B a n c w' (r.take K S n k s) f):=Lib.hid fun k s r f wx h h3=>(Take_any B a n c r.i r.bad K S k s wx h.p (T.out wx h.b) z0b).mono fun e w' hx=>⟨hx.1,h.step hx.2.1 hx.2.2⟩
 have CW:Hid (∀ (k:Int) (r:Rd) (f:PF) (wx:World),FdI w B a n c wx r f→r.i≤n→Calls Tryd.prog 14 #[.pointer (some ⟨B,0,none⟩),.int .i64 k] wx fun e w'=>e=.returned (.string (r.text K S n k))∧FdI w B a n c w' (r.word K n k) f):=Lib.hid fun k r f wx h h3=>(Word_any B a n c r.i r.bad K S k wx h.p (T.out wx h.b) z0b).mono fun e w' hx=>⟨hx.1,h.step hx.2.1 hx.2.2⟩
 have CN:Hid (∀ (r:Rd) (f:PF) (wx:World),FdI w B a n c wx r f→r.i≤n→Calls Tryd.prog 26 #[.pointer (some ⟨B,0,none⟩)] wx fun e w'=>e=.returned (.int .i64 (r.num K S n:Nat))∧FdI w B a n c w' (r.word K n 2) f):=Lib.hid fun r f wx h h3=>(Number22_any B a n c r.i r.bad K S wx h.p (T.out wx h.b) z0b (r.text K S n 2) rfl (rd_digits hD r).1 (rd_digits hD r).2).mono fun e w' hx=>⟨hx.1,h.step hx.2.1 hx.2.2⟩
 have F0:=Lib.hid (fdi_new (w:=w) (r:=r) hP 70)
 have HM:=Lib.hid hM
 have HL:=Lib.hid hl
 have hrn:=hl.1
 have HH:=Lib.hid (headT_le (K:=K) (S:=S) hrn)
 obtain ⟨e1,he1⟩:∃ x,eqT (tokK K n r.i) (tokS S n r.i) 1 ⟨#[109,97,112]⟩=x:=⟨_,rfl⟩
 obtain ⟨e2,he2⟩:∃ x,eqT (tokK K n (r.i+1)) (tokS S n (r.i+1)) 4 ⟨#[60]⟩=x:=⟨_,rfl⟩
 have HE1:=Lib.hid he1
 have HE2:=Lib.hid he2
 have q1:=eqT_run (tokK K n r.i) 1 (tokS S n r.i) ⟨#[109,97,112]⟩
 have q2:=eqT_run (tokK K n (r.i+1)) 4 (tokS S n (r.i+1)) ⟨#[60]⟩
 rw [he1] at q1
 rw [he2] at q2
 have hlt2:e2=true→r.i+2≤n:=fun h=>by have:=eqT_lt (K:=K) (S:=S) (n:=n) (j:=r.i+1) (k:=4) (s:=⟨#[60]⟩) z0g (he2.trans h);omega
 have HL2:=Lib.hid hlt2
 have hbz:=hP.c
 have A0:=Lib.hid fun wx (hx:Below (w.alloc (.cells #[.string ⟨#[]⟩,.string ⟨#[]⟩,.int .i64 0,.bool false,.bool false,.bool false] 70)).heap.size (w.alloc (.cells #[.string ⟨#[]⟩,.string ⟨#[]⟩,.int .i64 0,.bool false,.bool false,.bool false] 70)) wx)=>C0.out r pf0 wx (F0.out.low hx) hrn
 have A1:=Lib.hid fun wx (hx:Below (w.alloc (.cells #[.string ⟨#[]⟩,.string ⟨#[]⟩,.int .i64 0,.bool false,.bool false,.bool false] 70)).heap.size (w.alloc (.cells #[.string ⟨#[]⟩,.string ⟨#[]⟩,.int .i64 0,.bool false,.bool false,.bool false] 70)) wx)=>C1.out r pf0 wx (F0.out.low hx) hrn
 obtain ⟨k0,hk0⟩:∃ x,tokK K n r.i=x:=⟨_,rfl⟩
 obtain ⟨s0,hs0⟩:∃ x,tokS S n r.i=x:=⟨_,rfl⟩
 obtain ⟨k1,hk1⟩:∃ x,tokK K n (r.i+1)=x:=⟨_,rfl⟩
 obtain ⟨s1,hs1⟩:∃ x,tokS S n (r.i+1)=x:=⟨_,rfl⟩
 rw [hk0,hs0] at q1 A0
 rw [hk1,hs1] at q2 A1
 clear hT hM hP hl hb hD he1 he2 hlt2 hbz hk0 hs0 hk1 hs1
 go_enter Tryd.func17,Tryd.ntmps17
 go_upto_region 1 with fail
 generalize (w.alloc (.cells #[.string ⟨#[]⟩,.string ⟨#[]⟩,.int .i64 0,.bool false,.bool false,.bool false] 70))=W at *
 go_cut [14] (fun s14 wx=>s14=.bool (e1 && e2)∧Below W.heap.size W wx)
 case first=>
  cases e1 with
  | true=>
   repeat any_goals (first|(go_at_call 25;with_reducible refine (A0.out _ (Below.refl _ _)).mono ?_;rintro e w1 ⟨rfl,hx1⟩)|(go_at_call 25;with_reducible refine (A1.out _ hx1).mono ?_;rintro e w2 ⟨rfl,hx2⟩)|(rw [q1];simp only [Result.andThen_ok])|(rw [q2];simp only [Result.andThen_ok])|go_skip|go_guarded|go_step|go_upon|(dsimp only []))
   go_meet
   case rel=>exact ⟨rfl,below_trans hx1 hx2⟩
  | false=>
   repeat any_goals (first|(go_at_call 25;with_reducible refine (A0.out _ (Below.refl _ _)).mono ?_;rintro e w1 ⟨rfl,hx1⟩)|(rw [q1];simp only [Result.andThen_ok])|go_skip|go_guarded|go_step|go_upon|(dsimp only []))
   go_meet
   case rel=>exact ⟨rfl,hx1⟩
 case rest=>
  obtain ⟨rfl,hb1⟩:=hcut
  have F1:=Lib.hid (F0.out.low hb1)
  go_upto_if 14 with fail
  go_cut [] (fun wx=>FdI w B a n c wx (headT K S n r).1 (headT K S n r).2)
  case first=>
   cases e1 with
   | true=>
    cases e2 with
    | true=>
     have he:headT K S n r=(((Rd.take K S n ⟨r.i+2,r.bad⟩ 1 ⟨#[115,116,114,105,110,103]⟩ |>.take K S n 4 ⟨#[44]⟩).word K n 1).take K S n 4 ⟨#[62]⟩,{ name:=⟨#[]⟩,type:=(Rd.take K S n ⟨r.i+2,r.bad⟩ 1 ⟨#[115,116,114,105,110,103]⟩ |>.take K S n 4 ⟨#[44]⟩).text K S n 1,number:=0,opt:=false,rep:=false,map:=true }):=by unfold headT;rw [if_pos ⟨HE1.out,HE2.out⟩]
     have h2:(⟨r.i+2,r.bad⟩:Rd).i≤n:=HL2.out rfl
     obtain ⟨_,_,_⟩:=F1.out.p.c
     have hfz:=F1.out.p.f
     have hlz:=F1.out.p.lt
     have F2:Hid (FdI w B a n c (wc.setCell ⟨B,1,none⟩ (.int .i64 ((r.i:Int)+2))) ⟨r.i+2,r.bad⟩ pf0):=Lib.hid (F1.out.goto (r.i+2))
     go_upto_region 3 with fail
     clear hfz hlz
     generalize (wc.setCell ⟨B,1,none⟩ (.int .i64 ((r.i:Int)+2)))=w3 at *
     have h3:(Rd.take K S n ⟨r.i+2,r.bad⟩ 1 ⟨#[115,116,114,105,110,103]⟩).i≤n:=rd_take_le (r:=⟨r.i+2,r.bad⟩) z0g h2
     have h4:(Rd.take K S n ⟨r.i+2,r.bad⟩ 1 ⟨#[115,116,114,105,110,103]⟩ |>.take K S n 4 ⟨#[44]⟩).i≤n:=rd_take_le (r:=Rd.take K S n ⟨r.i+2,r.bad⟩ 1 ⟨#[115,116,114,105,110,103]⟩) z0g h3
     have h5:((Rd.take K S n ⟨r.i+2,r.bad⟩ 1 ⟨#[115,116,114,105,110,103]⟩ |>.take K S n 4 ⟨#[44]⟩).word K n 1).i≤n:=rd_word_le z0g h4
     go_upto_region 4 with (go_at_call 13;with_reducible refine (CT.out 1 ⟨#[115,116,114,105,110,103]⟩ ⟨r.i+2,r.bad⟩ pf0 _ F2.out h2).mono ?_;rintro e w2 ⟨rfl,hg⟩;have G3:=Lib.hid hg;clear hg;obtain ⟨⟨_,_,_,_,_,_⟩,hfz⟩:=G3.out.f;have hlz:=G3.out.f.lt;have hzB:=G3.out.lt)
     go_upto_region 5 with (go_at_call 13;with_reducible refine (CT.out 4 ⟨#[44]⟩ (Rd.take K S n ⟨r.i+2,r.bad⟩ 1 ⟨#[115,116,114,105,110,103]⟩) pf0 _ G3.out h3).mono ?_;rintro e w2 ⟨rfl,hg⟩;have G4:=Lib.hid hg;clear hg;obtain ⟨⟨_,_,_,_,_,_⟩,hfz⟩:=G4.out.f;have hlz:=G4.out.f.lt;have hzB:=G4.out.lt)
     go_upto_region 6 with (go_at_call 14;with_reducible refine (CW.out 1 (Rd.take K S n ⟨r.i+2,r.bad⟩ 1 ⟨#[115,116,114,105,110,103]⟩ |>.take K S n 4 ⟨#[44]⟩) pf0 _ G4.out h4).mono ?_;rintro e w2 ⟨rfl,hg⟩;have G5:=Lib.hid hg;clear hg;obtain ⟨⟨_,_,_,_,_,_⟩,hfz⟩:=G5.out.f;have hlz:=G5.out.f.lt;have hzB:=G5.out.lt)
     have F6:=Lib.hid ((G5.out.setMap true).setType ((Rd.take K S n ⟨r.i+2,r.bad⟩ 1 ⟨#[115,116,114,105,110,103]⟩ |>.take K S n 4 ⟨#[44]⟩).text K S n 1))
     clear hfz hlz hzB
     generalize ((w2.setCell ⟨w.heap.size,5,none⟩ (.bool true)).setCell ⟨w.heap.size,1,none⟩ (.string ((Rd.take K S n ⟨r.i+2,r.bad⟩ 1 ⟨#[115,116,114,105,110,103]⟩ |>.take K S n 4 ⟨#[44]⟩).text K S n 1)))=w6 at *
     repeat any_goals (first|(go_at_call 13;with_reducible refine (CT.out 4 ⟨#[62]⟩ _ _ _ F6.out h5).mono ?_;rintro e w2 ⟨rfl,hg⟩;have G7:=Lib.hid hg;clear hg;obtain ⟨⟨_,_,_,_,_,_⟩,hfz⟩:=G7.out.f;have hlz:=G7.out.f.lt;have hzB:=G7.out.lt)|go_skip|go_guarded|go_step|go_upon|(dsimp only []))
     go_meet
     case rel=>rw [he];exact G7.out
    | false=>
     exact z26zk1
   | false=>
    cases e2 with
    | true=>
     exact z26zk1
    | false=>
     exact z26zk1
  case rest=>
   obtain ⟨r1,hr1⟩:∃ x,(headT K S n r).1=x:=⟨_,rfl⟩
   obtain ⟨f1,hf1⟩:∃ x,(headT K S n r).2=x:=⟨_,rfl⟩
   have F1:Hid (FdI w B a n c wc r1 f1):=by rw [← hr1,← hf1];exact Lib.hid hcut
   clear hcut
   have g1:r1.i≤n:=by rw [← hr1];exact HH.out.2
   have g2:(r1.word K n 1).i≤n:=rd_word_le z0g g1
   have g3:((r1.word K n 1).take K S n 4 ⟨#[61]⟩).i≤n:=rd_take_le (r:=r1.word K n 1) z0g g2
   have g4:(((r1.word K n 1).take K S n 4 ⟨#[61]⟩).word K n 2).i≤n:=rd_word_le z0g g3
   go_upto_region 11 with (go_at_call 14;with_reducible refine (CW.out 1 _ _ _ F1.out g1).mono ?_;rintro e w2 ⟨rfl,hg⟩;have G2:=Lib.hid hg;clear hg;obtain ⟨⟨_,_,_,_,_,_⟩,hfz⟩:=G2.out.f;have hlz:=G2.out.f.lt;have hzB:=G2.out.lt)
   have F3:=Lib.hid (G2.out.setName (r1.text K S n 1))
   clear hfz hlz hzB
   generalize (w2.setCell ⟨w.heap.size,0,none⟩ (.string (r1.text K S n 1)))=w3 at *
   go_upto_region 12 with (go_at_call 13;with_reducible refine (CT.out 4 ⟨#[61]⟩ _ _ _ F3.out g2).mono ?_;rintro e w2 ⟨rfl,hg⟩;have G4:=Lib.hid hg;clear hg;obtain ⟨⟨_,_,_,_,_,_⟩,hfz⟩:=G4.out.f;have hlz:=G4.out.f.lt;have hzB:=G4.out.lt)
   clear hfz hlz hzB
   go_upto_region 13 with (go_at_call 26;with_reducible refine (CN.out _ _ _ G4.out g3).mono ?_;rintro e w2 ⟨rfl,hg⟩;have G5:=Lib.hid hg;clear hg;obtain ⟨⟨_,_,_,_,_,_⟩,hfz⟩:=G5.out.f;have hlz:=G5.out.f.lt;have hzB:=G5.out.lt)
   have F6:=Lib.hid (G5.out.setNum (((r1.word K n 1).take K S n 4 ⟨#[61]⟩).num K S n:Nat))
   clear hfz hlz hzB
   generalize (w2.setCell ⟨w.heap.size,2,none⟩ (.int .i64 (((r1.word K n 1).take K S n 4 ⟨#[61]⟩).num K S n:Nat)))=w6 at *
   obtain ⟨x,hx⟩:∃ x:PF,{ { f1 with name:=r1.text K S n 1 } with number:=(((r1.word K n 1).take K S n 4 ⟨#[61]⟩).num K S n:Nat) }=x:=⟨_,rfl⟩
   have F7:Hid (FdI w B a n c w6 (((r1.word K n 1).take K S n 4 ⟨#[61]⟩).word K n 2) x):=by rw [← hx];exact F6
   clear F1 G2 F3 G4 G5 F6
   have e:fieldT K S n r m=((((r1.word K n 1).take K S n 4 ⟨#[61]⟩).word K n 2).take K S n 4 ⟨#[59]⟩,{ m with F:=m.F ++ [x] }):=by rw [← hx,← hr1,← hf1];rfl
   obtain ⟨r7,hr7⟩:∃ y,(((r1.word K n 1).take K S n 4 ⟨#[61]⟩).word K n 2).take K S n 4 ⟨#[59]⟩=y:=⟨_,rfl⟩
   have CL:=Lib.hid (CT.out 4 ⟨#[59]⟩ (((r1.word K n 1).take K S n 4 ⟨#[61]⟩).word K n 2) x)
   rw [hr7] at CL e
   rw [e] at HLn
   go_upto_region 14 with (go_at_call 13;with_reducible refine (CL.out _ F7.out g4).mono ?_;rintro e w7 ⟨rfl,hg⟩;have G7:=Lib.hid hg;clear hg)
   have M8:=Lib.hid (HM.out.but (G7.out.b.trans2 (But.of (Below.refl w7.heap.size w7).drew)))
   have G8:=Lib.hid (G7.out.low (Below.refl w7.heap.size w7).drew)
   have hS0:w7.drew.cell? ⟨w0.heap.size,1,none⟩=some vF∧w7.drew.cell? ⟨w.heap.size,0,none⟩=some (.string x.name)∧w7.drew.cell? ⟨w.heap.size,1,none⟩=some (.string x.type)∧w7.drew.cell? ⟨w.heap.size,2,none⟩=some (.int .i64 x.number)∧w7.drew.cell? ⟨w.heap.size,3,none⟩=some (.bool x.opt)∧w7.drew.cell? ⟨w.heap.size,4,none⟩=some (.bool x.rep)∧w7.drew.cell? ⟨w.heap.size,5,none⟩=some (.bool x.map):=⟨M8.out.c.2.1,G8.out.f.c⟩
   refine wp_region_late (fun w'=>w'.cell? ⟨w0.heap.size,1,none⟩=some vF∧w'.cell? ⟨w.heap.size,0,none⟩=some (.string x.name)∧w'.cell? ⟨w.heap.size,1,none⟩=some (.string x.type)∧w'.cell? ⟨w.heap.size,2,none⟩=some (.int .i64 x.number)∧w'.cell? ⟨w.heap.size,3,none⟩=some (.bool x.opt)∧w'.cell? ⟨w.heap.size,4,none⟩=some (.bool x.rep)∧w'.cell? ⟨w.heap.size,5,none⟩=some (.bool x.map)) (fun i=>decide (8≤i)) z0a hS0 (fun hHeld=>?_)
   clear hS0 G7
   generalize w7.drew=w8 at *
   refine wpAnyT_take (i:=0) (v:=?_) rfl z0a z0a z0a z0a z0a (fun _ _ _ h=>h) (Or.inl ⟨by rfl,?_⟩) hHeld ?_
   rotate_left
   (focus (intro wq hSw;obtain ⟨_,_,_,_,_,_,_⟩:wq.cell? ⟨w0.heap.size,1,none⟩=some vF∧wq.cell? ⟨w.heap.size,0,none⟩=some (.string x.name)∧wq.cell? ⟨w.heap.size,1,none⟩=some (.string x.type)∧wq.cell? ⟨w.heap.size,2,none⟩=some (.int .i64 x.number)∧wq.cell? ⟨w.heap.size,3,none⟩=some (.bool x.opt)∧wq.cell? ⟨w.heap.size,4,none⟩=some (.bool x.rep)∧wq.cell? ⟨w.heap.size,5,none⟩=some (.bool x.map):=hSw;go_simp;(try with_reducible rfl)))
   simp only [Act.put,List.setIfInBounds_toArray,List.set_cons_zero,List.set_cons_succ,List.getElem_toArray,List.getElem_cons_zero]
   refine wpAnyT_take (i:=1) (v:=?_) rfl z0a z0a z0a z0a z0a (fun _ _ _ h=>h) (Or.inl ⟨by rfl,?_⟩) hHeld ?_
   rotate_left
   (focus (intro wq hSw;obtain ⟨_,_,_,_,_,_,_⟩:wq.cell? ⟨w0.heap.size,1,none⟩=some vF∧wq.cell? ⟨w.heap.size,0,none⟩=some (.string x.name)∧wq.cell? ⟨w.heap.size,1,none⟩=some (.string x.type)∧wq.cell? ⟨w.heap.size,2,none⟩=some (.int .i64 x.number)∧wq.cell? ⟨w.heap.size,3,none⟩=some (.bool x.opt)∧wq.cell? ⟨w.heap.size,4,none⟩=some (.bool x.rep)∧wq.cell? ⟨w.heap.size,5,none⟩=some (.bool x.map):=hSw;go_simp;(try with_reducible rfl)))
   refine z26zs2 ?_
   refine wpAnyT_take (i:=2) (v:=?_) rfl z0a z0a z0a z0a z0a (fun _ _ _ h=>h) (Or.inl ⟨by rfl,?_⟩) hHeld ?_
   rotate_left
   (focus (intro wq hSw;obtain ⟨_,_,_,_,_,_,_⟩:wq.cell? ⟨w0.heap.size,1,none⟩=some vF∧wq.cell? ⟨w.heap.size,0,none⟩=some (.string x.name)∧wq.cell? ⟨w.heap.size,1,none⟩=some (.string x.type)∧wq.cell? ⟨w.heap.size,2,none⟩=some (.int .i64 x.number)∧wq.cell? ⟨w.heap.size,3,none⟩=some (.bool x.opt)∧wq.cell? ⟨w.heap.size,4,none⟩=some (.bool x.rep)∧wq.cell? ⟨w.heap.size,5,none⟩=some (.bool x.map):=hSw;go_simp;(try with_reducible rfl)))
   refine z26zs2 ?_
   refine wpAnyT_take (i:=3) (v:=?_) rfl z0a z0a z0a z0a z0a (fun _ _ _ h=>h) (Or.inl ⟨by rfl,?_⟩) hHeld ?_
   rotate_left
   (focus (intro wq hSw;obtain ⟨_,_,_,_,_,_,_⟩:wq.cell? ⟨w0.heap.size,1,none⟩=some vF∧wq.cell? ⟨w.heap.size,0,none⟩=some (.string x.name)∧wq.cell? ⟨w.heap.size,1,none⟩=some (.string x.type)∧wq.cell? ⟨w.heap.size,2,none⟩=some (.int .i64 x.number)∧wq.cell? ⟨w.heap.size,3,none⟩=some (.bool x.opt)∧wq.cell? ⟨w.heap.size,4,none⟩=some (.bool x.rep)∧wq.cell? ⟨w.heap.size,5,none⟩=some (.bool x.map):=hSw;go_simp;(try with_reducible rfl)))
   refine z26zs2 ?_
   refine wpAnyT_take (i:=4) (v:=?_) rfl z0a z0a z0a z0a z0a (fun _ _ _ h=>h) (Or.inl ⟨by rfl,?_⟩) hHeld ?_
   rotate_left
   (focus (intro wq hSw;obtain ⟨_,_,_,_,_,_,_⟩:wq.cell? ⟨w0.heap.size,1,none⟩=some vF∧wq.cell? ⟨w.heap.size,0,none⟩=some (.string x.name)∧wq.cell? ⟨w.heap.size,1,none⟩=some (.string x.type)∧wq.cell? ⟨w.heap.size,2,none⟩=some (.int .i64 x.number)∧wq.cell? ⟨w.heap.size,3,none⟩=some (.bool x.opt)∧wq.cell? ⟨w.heap.size,4,none⟩=some (.bool x.rep)∧wq.cell? ⟨w.heap.size,5,none⟩=some (.bool x.map):=hSw;go_simp;(try with_reducible rfl)))
   refine z26zs2 ?_
   refine wpAnyT_take (i:=5) (v:=?_) rfl z0a z0a z0a z0a z0a (fun _ _ _ h=>h) (Or.inl ⟨by rfl,?_⟩) hHeld ?_
   rotate_left
   (focus (intro wq hSw;obtain ⟨_,_,_,_,_,_,_⟩:wq.cell? ⟨w0.heap.size,1,none⟩=some vF∧wq.cell? ⟨w.heap.size,0,none⟩=some (.string x.name)∧wq.cell? ⟨w.heap.size,1,none⟩=some (.string x.type)∧wq.cell? ⟨w.heap.size,2,none⟩=some (.int .i64 x.number)∧wq.cell? ⟨w.heap.size,3,none⟩=some (.bool x.opt)∧wq.cell? ⟨w.heap.size,4,none⟩=some (.bool x.rep)∧wq.cell? ⟨w.heap.size,5,none⟩=some (.bool x.map):=hSw;go_simp;(try with_reducible rfl)))
   refine z26zs2 ?_
   refine z26zs1 ?_
   refine wpAnyT_ready (rs:=[6]) z0a z0c ?_
   refine AllReadyT.cons rfl (fun KK hK=>?_) AllReadyT.nil
   go_simp
   have hA:Below w8.heap.size w8 (w8.alloc (.cells #[.string x.name,.string x.type,.int .i64 x.number,.bool x.opt,.bool x.rep,.bool x.map] 70)):=below_alloc (Below.refl _ _) _
   refine hK.out _ _ (fun _=>⟨(M8.out.but (But.of hA)).c.2.1,(G8.out.low hA).f.c⟩) (fun _=>?_)
   clear hK KK
   have OS:=rows_below M8.out.oF hA
   obtain ⟨iS,hiS,hsS0,hsS1,hsS2⟩:=info_parts infoPF
   have hln:m.F.length≤n+1:=by have h1:=HL.out.2.2.2;have h2:=HL.out.1;split at h1 <;> omega
   have hbl:=M8.out.bl
   refine z26zs1 ?_
   refine wpAnyT_ready (rs:=[7]) z0a z0c ?_
   refine AllReadyT.cons rfl (fun KK hK=>?_) AllReadyT.nil
   refine step_append_at rfl (.tmp 63) (.tmp 65) 52 rfl (w0.heap.size+1) 70 iS (.agg #[.string ⟨#[]⟩,.string ⟨#[]⟩,.int .i64 0,.bool false,.bool false,.bool false]) 6 48 Tryd.underlying52 hiS hsS0 hsS1 hsS2 rfl z0g vF m.F.length (rowPF m.F) z0f OS ⟨w8.heap.size,0,none⟩ 1 1 x.cells z0f rfl (news_six (sxf_new _ _ _ _ _ _ _ _)) (oneC_pf x) z0o z0b (by simp;omega) ?_
   intro vS2 w9 own3 hg3 hn3
   obtain ⟨gS,cS,rfl⟩:=own_lit own3 z0b
   have AP:=Lib.hid (ap1_of hA hg3 own3)
   have hne:some w0.heap.size≠vF.ownBlock:=fun c=>by have:=(M8.out.oF.lt _ c.symm).1;omega
   have hne2:∀ b,b=w.heap.size→some b≠vF.ownBlock:=fun b hb c=>by have:=(HM.out.oF.lt _ c.symm).2;omega
   have hk3:=AP.out.block _ hbl hne
   have hc3:w9.cell? ⟨w0.heap.size,1,none⟩=some vF:=(World.cell?_of_block (a:=⟨w0.heap.size,1,none⟩) hk3).trans M8.out.c.2.1
   have hf3:∀ j,w9.frozen? ⟨w0.heap.size,j,none⟩=false:=fun j=>(World.frozen?_of_block (a:=⟨w0.heap.size,j,none⟩) hk3).trans (M8.out.f j)
   have hl3:w0.heap.size < w9.heap.size:=Nat.lt_of_lt_of_le hbl AP.out.size
   have hk4:=AP.out.block w.heap.size G8.out.f.lt (hne2 _ rfl)
   have hs4:∀ (j:Nat) {u:Value},w8.cell? ⟨w.heap.size,j,none⟩=some u→w9.cell? ⟨w.heap.size,j,none⟩=some u:=fun j _ hc=>(World.cell?_of_block (a:=⟨w.heap.size,j,none⟩) hk4).trans hc
   obtain ⟨c0,c1,c2,c3,c4,c5⟩:=G8.out.f.c
   refine hK.out _ _ (fun _=>⟨hc3,hs4 0 c0,hs4 1 c1,hs4 2 c2,hs4 3 c3,hs4 4 c4,hs4 5 c5⟩) (fun _=>?_)
   clear hK KK hHeld
   refine z26zs1 ?_
   refine wpAnyT_ready (rs:=[8]) z0a z0c ?_
   refine AllReadyT.cons rfl (fun KK hK=>?_) AllReadyT.nil
   go_simp
   refine hK.out _ _ (fun h=>z0s) (fun _=>?_)
   clear hK KK
   refine z26zs1 ?_
   refine wpAnyT_ready (rs:=[9]) z0a z0c ?_
   refine AllReadyT.cons rfl (fun KK hK=>?_) AllReadyT.nil
   go_simp
   refine hK.out _ _ (fun h=>z0s) (fun _=>?_)
   clear hK KK
   refine z26zs1 ?_
   refine wpAnyT_ready (rs:=[10]) z0a z0c ?_
   refine AllReadyT.cons rfl (fun KK hK=>?_) AllReadyT.nil
   go_simp
   refine hK.out _ _ (fun h=>z0s) (fun _=>?_)
   clear hK KK
   refine z26zs1 ?_
   refine wpAnyT_done z0a ?_ _
   refine NoPanic.normal ?_
   have M9:=Lib.hid (M8.out.pushF x AP.out)
   have hBl:=HM.out.lt
   have P9:=Lib.hid (PBx.same G8.out.p (w1:=w9.setCell ⟨w0.heap.size,1,none⟩ (.slice (some ⟨gS,0,none⟩) (m.F.length+1) cS)) ((block_setCell z0b).trans (AP.out.block B G8.out.p.lt (fun c=>by have:=(M8.out.oF.lt _ c.symm).1;omega))))
   repeat any_goals (first|go_skip|go_guarded|go_step|go_upon|(simp only [];done))
   rw [e]
   exact bodyPost_end (v:=.tuple #[]) (by simp [results,Tryd.results17,go_sem]) rfl ⟨rfl,_,M9.out,P9.out,HLn.out⟩
end Go.Proofs.YtfondldmmcmloaaDoor
