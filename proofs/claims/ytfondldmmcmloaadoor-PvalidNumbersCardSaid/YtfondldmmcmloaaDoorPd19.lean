/- QA, QB, QC, QD, QE, VSelf, NrA, NrB. -/
import Derived.Test.YtfondldmmcmloaaDoorPd18
set_option maxRecDepth 1000000
set_option maxHeartbeats 8000000
namespace Go.Proofs.YtfondldmmcmloaaDoor
open Go Go.RowKit
theorem z19zs1 {p q:Prop} (h:q) (e:q→p:=by intro hq;(try simp only [Act.put,List.setIfInBounds_toArray,List.set_cons_zero,List.set_cons_succ]);exact hq):p:=e h
theorem z19zk1 {p:Prop} (h:p:=by
 have h:=Tryd.underlying58
 unfold binOp eqT
 simp only [go_sem]
 unfold Op.equal Op.maxDepth Op.equalIn
 simp only [Sem.run_bind,run_underlying h,Result.andThen_ok]
 by_cases ek:k=k' <;> by_cases et:s=s' <;> simp [go_sem,ek,et] <;> exact fun h=>et (toList_inj h)):p:=h
end Go.Proofs.YtfondldmmcmloaaDoor
namespace Go.Proofs.YtfondldmmcmloaaDoor
open Go.RowKit
def eqT (k:Int) (s:ByteArray) (k':Int) (s':ByteArray):Bool:=k == k' && decide (s=s')
theorem neqT_run (k k':Int) (s s':ByteArray) (w:World):(binOp .neq 58 (.agg #[.int .i64 k,.string s]) (.agg #[.int .i64 k',.string s'])).run Tryd.prog w=.ok (.bool (!eqT k s k' s')) w:=by
 exact z19zk1
theorem But.of {b f:Nat} {w w1:World} (h:Below w.heap.size w w1):But b f w w1:=⟨h.os,h.tape,h.output,h.size,fun k hk _ _=>h.block k hk⟩
theorem But.set1 {b f j:Nat} {w w1:World} {v:Value} (h:But b f w w1):But b f w (w1.setCell ⟨b,j,none⟩ v):=
 ⟨h.os,h.tape,h.output,by simpa using h.size,fun k hk hb hf=>by rw [Below.heap_setCell _ _ _ _ hb];exact h.block k hk hb hf⟩
structure TKx (w:World) (B:Nat) (k:Int) (s:ByteArray):Prop where
 all:w.cell? ⟨B,0,none⟩=some (.int .i64 k)∧w.cell? ⟨B,1,none⟩=some (.string s)∧True∧True∧True
theorem TKx.below {w w1:World} {B:Nat} {k:Int} {s:ByteArray} (h:TKx w B k s) (hb:Below w.heap.size w w1):TKx w1 B k s:=⟨keep_cell hb h.all.1,keep_cell hb h.all.2.1,trivial,trivial,trivial⟩
theorem PBx.all {w:World} {B:Nat} {a:Option Addr} {n c i:Nat} {bad:Bool} (h:PBx w B a n c i bad):w.cell? ⟨B,0,none⟩=some (.slice a n c)∧w.cell? ⟨B,1,none⟩=some (.int .i64 (i:Nat))∧w.cell? ⟨B,2,none⟩=some (.bool bad)∧True∧True:=⟨h.c.1,h.c.2.1,h.c.2.2,trivial,trivial⟩
def isB (K:Nat→Int) (S:Nat→ByteArray) (n i:Nat) (bad:Bool) (k:Int) (s:ByteArray):Bool:=!bad && eqT (tokK K n i) (tokS S n i) k s
theorem Is_any (B:Nat) (a:Option Addr) (n c i:Nat) (bad:Bool) (K:Nat→Int) (S:Nat→ByteArray) (k:Int) (s:ByteArray) (w:World) (hP:PBx w B a n c i bad) (hT:TIn w a n c K S) (hi:i≤1000000) :
  Calls Tryd.prog 15 #[.pointer (some ⟨B,0,none⟩),.agg #[.int .i64 k,.string s]] w fun e w'=>e=.returned (.bool (isB K S n i bad k s))∧PBx w' B a n c (if isB K S n i bad k s=true then i+1 else i) bad∧But B B w w':=by
 have HP:=Lib.hid hP
 have HT:=Lib.hid hT
 have hB:=hP.lt
 have C1:Hid (∀ wx:World,Below w.heap.size w wx→Calls Tryd.prog 25 #[.pointer (some ⟨B,0,none⟩),.int .i64 0] wx fun e w'=>e=.returned (.agg #[.int .i64 (tokK K n i),.string (tokS S n i)])∧Below wx.heap.size wx w'):=Lib.hid fun wx hx=>At_any B a n c i bad K S 0 wx (HP.out.below hx) (HT.out.below hx) hi z0b
 unfold isB
 obtain ⟨tk,htk⟩:∃ x,x=tokK K n i:=⟨_,rfl⟩
 obtain ⟨ts,hts⟩:∃ x,x=tokS S n i:=⟨_,rfl⟩
 rw [← htk,← hts] at C1 ⊢
 clear htk hts
 have q0:=neqT_run tk k ts s
 obtain ⟨r,hr⟩:∃ r,r=eqT tk ts k s:=⟨_,rfl⟩
 rw [← hr] at q0 ⊢
 clear hr hT
 obtain ⟨_,_,_⟩:=hP.c
 have hfz:=hP.f
 clear hP
 cases bad with
 | true=>
  go_enter Tryd.func15,Tryd.ntmps15
  repeat any_goals (first|go_region|go_skip|go_guarded|go_step|go_upon|(dsimp only []))
  exact bodyPost_ret (v:=.bool false) (by simp [results,Tryd.results15,go_sem]) rfl ⟨rfl,by simpa using HP.out.below zb2,But.of zb2⟩
 | false=>
  go_enter Tryd.func15,Tryd.ntmps15
  go_upto_region 1 with fail
  have hW:Below w.heap.size w (w.alloc (.cells #[.int .i64 k,.string s] 58)):=zb2
  have X:=Lib.hid (show TKx (w.alloc (.cells #[.int .i64 k,.string s] 58)) w.heap.size k s from ⟨by simp [go_sem]⟩)
  have Y:=Lib.hid (HP.out.below hW)
  have hsz:w.heap.size < (w.alloc (.cells #[.int .i64 k,.string s] 58)).heap.size:=by simp
  generalize (w.alloc (.cells #[.int .i64 k,.string s] 58))=W at *
  cases r with
  | false=>
   (obtain ⟨C_,hC⟩:∃ C:World→Prop,C=fun w'=>Below (W).heap.size (W) w':=⟨_,rfl⟩;have HC:=Lib.hid hC;have hne:∀ p:Prop,(∀ w1:World,C_ w1→p)=p:=fun p=>propext ⟨fun h=>h (W) z0i,fun h _ _=>h⟩;clear hC;refine wp_region_quiet_cls (C:=C_) z0a z0a z0d ?_)
   (go_big_quiet_want;go_big_quiet_op;go_big_quiet_on)
   (go_big_quiet_want;go_big_quiet_op;go_big_quiet_on)
   (go_big_quiet_want;go_big_quiet_op;go_big_quiet_on)
   (go_big_quiet_want;refine ⟨.bool false,fun w1 hw1=>?_,?_⟩;(rw [HC.out] at hw1;obtain ⟨_,_,_,_,_⟩:=(Y.out.below hw1).all;simp [Oper.quietAt,go_sem, *]);refine z19zs1 ?_;go_big_quiet_on)
   (go_big_quiet_want;go_big_quiet_op;go_big_quiet_on)
   (go_big_quiet_want;go_big_quiet_op;go_big_quiet_on)
   (go_big_quiet_want;go_big_quiet_op;refine ⟨.agg #[.int .i64 tk,.string ts],fun w1 hw1=>?_,?_⟩;(rw [HC.out] at hw1 ⊢;with_reducible refine (C1.out _ (below_trans hW hw1)).mono ?_;rintro e w4 ⟨rfl,hb4⟩;exact ⟨rfl,below_trans hw1 hb4⟩);go_big_quiet_on)
   (go_big_quiet_want;refine ⟨.agg #[.int .i64 k,.string s],fun w1 hw1=>?_,?_⟩;(rw [HC.out] at hw1;obtain ⟨_,_,_,_,_⟩:=(X.out.below hw1).all;simp [Oper.quietAt,go_sem, *]);refine z19zs1 ?_;go_big_quiet_on)
   (go_big_quiet_want;refine ⟨.bool true,fun w1 hw1=>?_,?_⟩;(rw [HC.out] at hw1;obtain ⟨_,_,_,_,_⟩:=(X.out.below hw1).all;simp [Oper.quietAt,go_sem, *]);refine z19zs1 ?_;go_big_quiet_on)
   (go_big_quiet_want;go_big_quiet_op;go_big_quiet_on)
   (refine wpQuiet_nil ?_;intro w2 hw2;rw [HC.out] at hw2)
   repeat any_goals (first|go_skip|go_guarded|go_step|go_upon|(simp only [];done))
   exact bodyPost_ret (v:=.bool false) (by simp [results,Tryd.results15,go_sem]) rfl ⟨rfl,by simpa using Y.out.below hw2,But.of (below_trans hW hw2)⟩
  | true=>
   (obtain ⟨C_,hC⟩:∃ C:World→Prop,C=fun w'=>Below (W).heap.size (W) w':=⟨_,rfl⟩;have HC:=Lib.hid hC;have hne:∀ p:Prop,(∀ w1:World,C_ w1→p)=p:=fun p=>propext ⟨fun h=>h (W) z0i,fun h _ _=>h⟩;clear hC;refine wp_region_quiet_cls (C:=C_) z0a z0a z0d ?_)
   (go_big_quiet_want;go_big_quiet_op;go_big_quiet_on)
   (go_big_quiet_want;go_big_quiet_op;go_big_quiet_on)
   (go_big_quiet_want;go_big_quiet_op;go_big_quiet_on)
   (go_big_quiet_want;refine ⟨.bool false,fun w1 hw1=>?_,?_⟩;(rw [HC.out] at hw1;obtain ⟨_,_,_,_,_⟩:=(Y.out.below hw1).all;simp [Oper.quietAt,go_sem, *]);refine z19zs1 ?_;go_big_quiet_on)
   (go_big_quiet_want;go_big_quiet_op;go_big_quiet_on)
   (go_big_quiet_want;go_big_quiet_op;go_big_quiet_on)
   (go_big_quiet_want;go_big_quiet_op;refine ⟨.agg #[.int .i64 tk,.string ts],fun w1 hw1=>?_,?_⟩;(rw [HC.out] at hw1 ⊢;with_reducible refine (C1.out _ (below_trans hW hw1)).mono ?_;rintro e w4 ⟨rfl,hb4⟩;exact ⟨rfl,below_trans hw1 hb4⟩);go_big_quiet_on)
   (go_big_quiet_want;refine ⟨.agg #[.int .i64 k,.string s],fun w1 hw1=>?_,?_⟩;(rw [HC.out] at hw1;obtain ⟨_,_,_,_,_⟩:=(X.out.below hw1).all;simp [Oper.quietAt,go_sem, *]);refine z19zs1 ?_;go_big_quiet_on)
   (go_big_quiet_want;refine ⟨.bool false,fun w1 hw1=>?_,?_⟩;(rw [HC.out] at hw1;obtain ⟨_,_,_,_,_⟩:=(X.out.below hw1).all;simp [Oper.quietAt,go_sem, *]);refine z19zs1 ?_;go_big_quiet_on)
   (go_big_quiet_want;go_big_quiet_op;go_big_quiet_on)
   (refine wpQuiet_nil ?_;intro w2 hw2;rw [HC.out] at hw2)
   have Y2:=Lib.hid (Y.out.below hw2)
   obtain ⟨_,_,_,_,_⟩:=Y2.out.all
   have hf2:=Y2.out.f
   have hl2:=Y2.out.lt
   repeat any_goals (first|go_skip|go_guarded|go_step|go_upon|(simp only [];done))
   exact bodyPost_ret (v:=.bool true) (by simp [results,Tryd.results15,go_sem]) rfl ⟨rfl,⟨by simp [go_sem, *],fun j=>by simp [go_sem, *]⟩,(But.of (below_trans hW hw2)).set1⟩
def takeI (K:Nat→Int) (S:Nat→ByteArray) (n i:Nat) (bad:Bool) (k:Int) (s:ByteArray):Nat:=if isB K S n i bad k s=true then i+1 else i
theorem Take_any (B:Nat) (a:Option Addr) (n c i:Nat) (bad:Bool) (K:Nat→Int) (S:Nat→ByteArray) (k:Int) (s:ByteArray) (w:World) (hP:PBx w B a n c i bad) (hT:TIn w a n c K S) (hi:i≤1000000) :
  Calls Tryd.prog 13 #[.pointer (some ⟨B,0,none⟩),.int .i64 k,.string s] w fun e w'=>e=.returned (.tuple #[])∧PBx w' B a n c (takeI K S n i bad k s) (!isB K S n i bad k s)∧But B B w w':=by
 have C1:=Lib.hid (Is_any B a n c i bad K S k s w hP hT hi)
 unfold takeI
 obtain ⟨r,hr⟩:∃ r,r=isB K S n i bad k s:=⟨_,rfl⟩
 have hbad:r=true→bad=false:=by intro h;rw [hr] at h;unfold isB at h;cases bad <;> simp_all
 rw [← hr] at C1 ⊢
 clear hr hT hP
 cases r with
 | true=>
  obtain rfl:=hbad rfl
  go_enter Tryd.func13,Tryd.ntmps13
  repeat any_goals (first|(go_at_call 15;with_reducible refine C1.out.mono ?_;rintro e w1 ⟨rfl,hp1,hq1⟩)|go_skip|go_guarded|go_step|go_upon|(dsimp only []))
  exact bodyPost_end (v:=.tuple #[]) (by simp [results,Tryd.results13,go_sem]) rfl ⟨rfl,by simpa using hp1,hq1⟩
 | false=>
  clear hbad
  go_enter Tryd.func13,Tryd.ntmps13
  repeat any_goals (first|(go_at_call 15;with_reducible refine C1.out.mono ?_;rintro e w1 ⟨rfl,hp1,hq1⟩;have hl1:=hp1.lt;obtain ⟨_,_,_⟩:=hp1.c;have hf1:=hp1.f)|go_skip|go_guarded|go_step|go_upon|(dsimp only []))
  exact bodyPost_end (v:=.tuple #[]) (by simp [results,Tryd.results13,go_sem]) rfl ⟨rfl,⟨by simp [go_sem, *],fun j=>by simp [go_sem, *]⟩,hq1.set1⟩
def wordB (K:Nat→Int) (n i:Nat) (bad:Bool) (k:Int):Bool:=!bad && (tokK K n i == k)
theorem Word_any (B:Nat) (a:Option Addr) (n c i:Nat) (bad:Bool) (K:Nat→Int) (S:Nat→ByteArray) (k:Int) (w:World) (hP:PBx w B a n c i bad) (hT:TIn w a n c K S) (hi:i≤1000000) :
  Calls Tryd.prog 14 #[.pointer (some ⟨B,0,none⟩),.int .i64 k] w fun e w'=>e=.returned (.string (if wordB K n i bad k=true then tokS S n i else ⟨#[]⟩))∧PBx w' B a n c (if wordB K n i bad k=true then i+1 else i) (!wordB K n i bad k)∧But B B w w':=by
 have HP:=Lib.hid hP
 have HT:=Lib.hid hT
 have C1:Hid (∀ wx:World,Below w.heap.size w wx→Calls Tryd.prog 25 #[.pointer (some ⟨B,0,none⟩),.int .i64 0] wx fun e w'=>e=.returned (.agg #[.int .i64 (tokK K n i),.string (tokS S n i)])∧Below wx.heap.size wx w'):=Lib.hid fun wx hx=>At_any B a n c i bad K S 0 wx (HP.out.below hx) (HT.out.below hx) hi z0b
 have hB:=hP.lt
 unfold wordB
 obtain ⟨tk,htk⟩:∃ x,x=tokK K n i:=⟨_,rfl⟩
 obtain ⟨ts,hts⟩:∃ x,x=tokS S n i:=⟨_,rfl⟩
 rw [← htk,← hts] at C1 ⊢
 clear htk hts hT hP
 go_enter Tryd.func14,Tryd.ntmps14
 go_upto_region 2 with (go_at_call 25;with_reducible refine (C1.out _ (Below.refl _ _)).mono ?_;rintro e w1 ⟨rfl,hb1⟩)
 have hW:Below w.heap.size w (w1.alloc (.cells #[.int .i64 tk,.string ts] 58)):=below_alloc hb1 _
 have X:=Lib.hid (show TKx (w1.alloc (.cells #[.int .i64 tk,.string ts] 58)) w1.heap.size tk ts from ⟨by simp [go_sem]⟩)
 have Y:=Lib.hid (HP.out.below hW)
 have hne:¬ B=w1.heap.size:=by have:=hb1.size;omega
 have hne':¬ w1.heap.size=B:=fun h=>hne h.symm
 generalize w1.alloc (.cells #[.int .i64 tk,.string ts] 58)=W at *
 obtain ⟨_,_,_,_,_⟩:=X.out.all
 obtain ⟨_,_,_,_,_⟩:=Y.out.all
 have hf2:=Y.out.f
 have hl2:=Y.out.lt
 cases bad with
 | true=>
  repeat any_goals (first|go_region|go_skip|go_guarded|go_step|go_upon|(dsimp only []))
  exact bodyPost_ret (v:=.string ⟨#[]⟩) (by simp [results,Tryd.results14,go_sem]) rfl ⟨rfl,⟨by simp [go_sem, *],fun j=>by simp [go_sem, *]⟩,(But.of hW).set1⟩
 | false=>
  by_cases h:tk=k
  ·subst h
   repeat any_goals (first|go_region|go_skip|go_guarded|go_step|go_upon|(dsimp only []))
   exact bodyPost_ret (v:=.string ts) (by simp [results,Tryd.results14,go_sem]) rfl ⟨by simp,⟨by simp [go_sem, *],fun j=>by simp [go_sem, *]⟩,(But.of hW).set1⟩
  ·have e1:(tk == k)=false:=beq_false_of_ne h
   have e2:(tk != k)=true:=bne_iff_ne.2 h
   repeat any_goals (first|go_region|go_skip|go_guarded|go_step|go_upon|(dsimp only []))
   exact bodyPost_ret (v:=.string ⟨#[]⟩) (by simp [results,Tryd.results14,go_sem]) rfl ⟨by simp [h],⟨by simp [go_sem, *],fun j=>by simp [go_sem, *]⟩,(But.of hW).set1⟩
def valN (s:ByteArray):Nat→Nat
 | 0=>0
 | k+1=>valN s k * 10+(byteN s k - 48)
theorem valN_lt {s:ByteArray} {k:Nat} (h:∀ j,j < k→byteN s j≤57):valN s k < 10 ^ k:=by
 induction k with
 | zero=>simp [valN]
 | succ k ih=>
  have h1:=ih fun j hj=>h j z0b
  have h2:=h k z0b
  show valN s k * 10+(byteN s k - 48) < 10 ^ (k+1)
  rw [Nat.pow_succ]
  omega
theorem Number22_any (B:Nat) (a:Option Addr) (n c i:Nat) (bad:Bool) (K:Nat→Int) (S:Nat→ByteArray) (w:World) (hP:PBx w B a n c i bad) (hT:TIn w a n c K S) (hi:i≤1000000)
  (s:ByteArray) (hs:s=if wordB K n i bad 2=true then tokS S n i else ⟨#[]⟩) (h9:s.size≤9) (hd:∀ j,j < s.size→48≤byteN s j∧byteN s j≤57) :
  Calls Tryd.prog 26 #[.pointer (some ⟨B,0,none⟩)] w fun e w'=>e=.returned (.int .i64 (valN s s.size:Nat))∧PBx w' B a n c (if wordB K n i bad 2=true then i+1 else i) (!wordB K n i bad 2)∧But B B w w':=by
 have C1:=Lib.hid (Word_any B a n c i bad K S 2 w hP hT hi)
 rw [← hs] at C1
 have HD:=Lib.hid hd
 obtain ⟨r,hr⟩:∃ r,r=wordB K n i bad 2:=⟨_,rfl⟩
 rw [← hr] at C1 ⊢
 clear hr hs hd hP hT
 go_enter Tryd.func26,Tryd.ntmps26
 repeat any_goals (first|(go_at_call 14;with_reducible refine C1.out.mono ?_;rintro e w1 ⟨rfl,hp1,hq1⟩;have HP1:=Lib.hid hp1;have HQ1:=Lib.hid hq1;clear hp1 hq1)|go_skip|go_guarded|go_step|go_upon|(dsimp only []))
 go_loopw [4,5] (fun v i wq=>∃ k:Nat,k≤s.size∧v=.int .i64 (valN s k:Nat)∧i=.int .i64 k∧w1=wq) (fun _ i _=>s.size - (intOf i).toNat)
 case atStart=>exact ⟨0,Nat.zero_le _,rfl,rfl,rfl⟩
 case round=>
  obtain ⟨k,hk,rfl,rfl,rfl⟩:=hrel
  by_cases hkn:k < s.size
  ·have i1:(k:Int) < (s.size:Int):=by omega
   have i2:(0:Int)≤(k:Int):=by omega
   have i5:(k:Int).toNat=k:=rfl
   have d0:=HD.out k hkn
   have e0:valN s (k+1)=valN s k * 10+(byteN s k - 48):=rfl
   have v0:=valN_lt (s:=s) (k:=k) fun j hj=>(HD.out j z0b).2
   have v1:(10:Nat) ^ k≤10 ^ 8:=Nat.pow_le_pow_right z0b z0b
   rw [byteN_at s k hkn] at d0 e0
   obtain ⟨V,hV⟩:∃ V,valN s k=V:=⟨_,rfl⟩
   rw [hV] at e0 v0
   have E0:=Lib.hid e0
   have v2:(V:Int) < 100000000:=by omega
   have v3:(0:Int)≤(V:Int):=by omega
   have d1:(48:Int)≤((s[k]'hkn).toNat:Int):=by omega
   have d2:((s[k]'hkn).toNat:Int)≤57:=by omega
   clear e0 v0 v1 d0
   rw [hV]
   clear hV
   repeat any_goals (first|go_skip|go_guarded|go_step|go_upon|(simp only [];done))
   go_roundw
   case rel=>exact ⟨k+1,by omega,by rw [E0.out];congr 1;omega,rfl,by trivial⟩
   case measure=>simp [intOf];omega
  ·have hk':k=s.size:=by omega
   have i1:¬ (k:Int) < (s.size:Int):=by omega
   repeat any_goals (first|go_skip|go_guarded|go_step|go_upon|(simp only [];done))
   exact bodyPost_ret (v:=.int .i64 (valN s k:Nat)) (by simp [results,Tryd.results26,go_sem]) rfl ⟨by rw [hk'],HP1.out,HQ1.out⟩
theorem eqT_run (k k':Int) (s s':ByteArray) (w:World):(binOp .eql 58 (.agg #[.int .i64 k,.string s]) (.agg #[.int .i64 k',.string s'])).run Tryd.prog w=.ok (.bool (eqT k s k' s')) w:=by
 exact z19zk1
theorem But.trans2 {b f:Nat} {w w1 w2:World} (h:But b f w w1) (k:But b f w1 w2):But b f w w2:=
 ⟨k.os.trans h.os,k.tape.trans h.tape,k.output.trans h.output,Nat.le_trans h.size k.size,fun j hj h1 h2=>(k.block j (Nat.lt_of_lt_of_le hj h.size) h1 h2).trans (h.block j hj h1 h2)⟩
theorem But.frozen {b f:Nat} {w w1:World} {p:Addr} (h:But b f w w1) (hl:p.block < w.heap.size) (hb:p.block≠b) (hf:p.block≠f):w1.frozen? p=w.frozen? p:=by
 unfold World.frozen?
 rw [h.block p.block hl hb hf]
theorem TIn.but {b f:Nat} {w w1:World} {a:Option Addr} {n c:Nat} {K:Nat→Int} {S:Nat→ByteArray} (h:TIn w a n c K S) (k:But b f w w1) (hb:∀ ad,a=some ad→ad.block≠b∧ad.block≠f):TIn w1 a n c K S:=by
 refine ⟨h.l,h.lc,?_⟩
 rcases h.c with h0|⟨g,off,e,hl,hc⟩
 ·exact .inl h0
 ·have hne:=hb _ e
  exact .inr ⟨g,off,e,Nat.lt_of_lt_of_le hl k.size,fun i hi=>⟨k.cell hne.1 hne.2 (hc i hi).1,k.cell hne.1 hne.2 (hc i hi).2⟩⟩
theorem PNorm_no (a:Option Addr) (n c:Nat) (kind:Int) (neg:Bool) (V bits:Nat) (text:ByteArray) (aL:Option Addr) (nL cL:Nat) (aK:Option Addr) (nK cK:Nat) (w:World)
  (C1:Hid (∀ wr:World,Below w.heap.size w wr→Calls Tryd.prog 9 #[.slice a n c,.agg #[.int .i64 kind,.bool neg,.int .u64 (lm V 0:Nat),.int .u64 (lm V 1:Nat),.int .u64 (lm V 2:Nat),.int .u64 (lm V 3:Nat),.int .u64 (bits:Nat),.string text,.slice aL nL cL,.slice aK nK cK]] wr fun e w'=>e=.returned (.bool false)∧Below wr.heap.size wr w')) :
  Calls Tryd.prog 10 #[.slice a n c,.agg #[.int .i64 kind,.bool neg,.int .u64 (lm V 0:Nat),.int .u64 (lm V 1:Nat),.int .u64 (lm V 2:Nat),.int .u64 (lm V 3:Nat),.int .u64 (bits:Nat),.string text,.slice aL nL cL,.slice aK nK cK]] w fun e w'=>e=.returned (.tuple #[.agg #[.int .i64 0,.bool false,.int .u64 0,.int .u64 0,.int .u64 0,.int .u64 0,.int .u64 0,.string ⟨#[]⟩,.slice none 0 0,.slice none 0 0],.bool false])∧Below w.heap.size w w':=by
 go_enter Tryd.func10,Tryd.ntmps10
 go_upto_region 1 with fail
 have hW:Below w.heap.size w ((w.alloc (.cells #[.int .i64 kind,.bool neg,.int .u64 (lm V 0:Nat),.int .u64 (lm V 1:Nat),.int .u64 (lm V 2:Nat),.int .u64 (lm V 3:Nat),.int .u64 (bits:Nat),.string text,.slice aL nL cL,.slice aK nK cK] 35)).alloc (.cells #[.int .i64 0,.bool false,.int .u64 0,.int .u64 0,.int .u64 0,.int .u64 0,.int .u64 0,.string ⟨#[]⟩,.slice none 0 0,.slice none 0 0] 35)):=zb2
 have X:=Lib.hid ((vbx_new w 35 kind neg V bits text aL nL cL aK nK cK).below (show Below (w.alloc (.cells #[.int .i64 kind,.bool neg,.int .u64 (lm V 0:Nat),.int .u64 (lm V 1:Nat),.int .u64 (lm V 2:Nat),.int .u64 (lm V 3:Nat),.int .u64 (bits:Nat),.string text,.slice aL nL cL,.slice aK nK cK] 35)).heap.size (w.alloc (.cells #[.int .i64 kind,.bool neg,.int .u64 (lm V 0:Nat),.int .u64 (lm V 1:Nat),.int .u64 (lm V 2:Nat),.int .u64 (lm V 3:Nat),.int .u64 (bits:Nat),.string text,.slice aL nL cL,.slice aK nK cK] 35)) ((w.alloc (.cells #[.int .i64 kind,.bool neg,.int .u64 (lm V 0:Nat),.int .u64 (lm V 1:Nat),.int .u64 (lm V 2:Nat),.int .u64 (lm V 3:Nat),.int .u64 (bits:Nat),.string text,.slice aL nL cL,.slice aK nK cK] 35)).alloc (.cells #[.int .i64 0,.bool false,.int .u64 0,.int .u64 0,.int .u64 0,.int .u64 0,.int .u64 0,.string ⟨#[]⟩,.slice none 0 0,.slice none 0 0] 35)) from zb2))
 have Y:=Lib.hid (show RBx ((w.alloc (.cells #[.int .i64 kind,.bool neg,.int .u64 (lm V 0:Nat),.int .u64 (lm V 1:Nat),.int .u64 (lm V 2:Nat),.int .u64 (lm V 3:Nat),.int .u64 (bits:Nat),.string text,.slice aL nL cL,.slice aK nK cK] 35)).alloc (.cells #[.int .i64 0,.bool false,.int .u64 0,.int .u64 0,.int .u64 0,.int .u64 0,.int .u64 0,.string ⟨#[]⟩,.slice none 0 0,.slice none 0 0] 35)) (w.heap.size+1) (.int .i64 0) (.bool false) (.int .u64 0) (.int .u64 0) (.int .u64 0) (.int .u64 0) (.int .u64 0) (.string ⟨#[]⟩) (.slice none 0 0) (.slice none 0 0) from ⟨by simp [go_sem]⟩)
 have hf:∀ j,((w.alloc (.cells #[.int .i64 kind,.bool neg,.int .u64 (lm V 0:Nat),.int .u64 (lm V 1:Nat),.int .u64 (lm V 2:Nat),.int .u64 (lm V 3:Nat),.int .u64 (bits:Nat),.string text,.slice aL nL cL,.slice aK nK cK] 35)).alloc (.cells #[.int .i64 0,.bool false,.int .u64 0,.int .u64 0,.int .u64 0,.int .u64 0,.int .u64 0,.string ⟨#[]⟩,.slice none 0 0,.slice none 0 0] 35)).frozen? ⟨w.heap.size+1,j,none⟩=false:=fun j=>by simp [go_sem]
 have hl:w.heap.size+1 < ((w.alloc (.cells #[.int .i64 kind,.bool neg,.int .u64 (lm V 0:Nat),.int .u64 (lm V 1:Nat),.int .u64 (lm V 2:Nat),.int .u64 (lm V 3:Nat),.int .u64 (bits:Nat),.string text,.slice aL nL cL,.slice aK nK cK] 35)).alloc (.cells #[.int .i64 0,.bool false,.int .u64 0,.int .u64 0,.int .u64 0,.int .u64 0,.int .u64 0,.string ⟨#[]⟩,.slice none 0 0,.slice none 0 0] 35)).heap.size:=by simp
 generalize (w.alloc (.cells #[.int .i64 kind,.bool neg,.int .u64 (lm V 0:Nat),.int .u64 (lm V 1:Nat),.int .u64 (lm V 2:Nat),.int .u64 (lm V 3:Nat),.int .u64 (bits:Nat),.string text,.slice aL nL cL,.slice aK nK cK] 35)).alloc (.cells #[.int .i64 0,.bool false,.int .u64 0,.int .u64 0,.int .u64 0,.int .u64 0,.int .u64 0,.string ⟨#[]⟩,.slice none 0 0,.slice none 0 0] 35)=W at *
 obtain ⟨_,_,_,_,_,_,_,_,_,_⟩:=X.out.all
 obtain ⟨B1,hB1⟩:∃ B,B=w.heap.size+1:=⟨_,rfl⟩
 have hbb:w.heap.size≤B1:=by omega
 rw [← hB1] at Y hf hl ⊢
 clear hB1
 repeat any_goals (first|(go_at_call 9;with_reducible refine (C1.out _ hW).mono ?_;rintro e w1 ⟨rfl,hb1⟩;have hl1:=Nat.lt_of_lt_of_le hl hb1.size;have Y1:=Lib.hid (Y.out.below hb1);obtain ⟨_,_,_,_,_,_,_,_,_,_⟩:=Y1.out.all;have hf1:∀ j,w1.frozen? ⟨B1,j,none⟩=false:=fun j=>(hb1.frozen (p:=⟨B1,j,none⟩) hl).trans (hf j);have hW1:=below_trans hW hb1)|go_skip|go_guarded|go_step|go_upon|(dsimp only []))
 exact bodyPost_ret (v:=.tuple #[.agg #[.int .i64 0,.bool false,.int .u64 0,.int .u64 0,.int .u64 0,.int .u64 0,.int .u64 0,.string ⟨#[]⟩,.slice none 0 0,.slice none 0 0],.bool false]) (by simp [results,Tryd.results10,go_sem, *]) rfl ⟨rfl,zb2⟩
theorem anyN_no0 {p:Nat→Bool} {n:Nat} (h:∀ i,i < n→p i=false):anyN p n=false:=by
 induction n with
 | zero=>rfl
 | succ k ih=>
  simp only [anyN]
  rw [ih fun i hi=>h i z0b,h k z0b]
  rfl
theorem VT.sameB_self:∀ (T:VT) (w:World),T.In w→T.sameB T=true:=by
 intro T
 induction T with
 | nil=>exact fun w h=>h.elim
 | mk kind neg V bits text aL nL cL kids aK nK cK keys ih=>
  intro w hin
  obtain ⟨-,-,hk,-⟩:=hin
  simp only [VT.sameB]
  have e1:anyN (fun i=>decide (keys i≠keys i)) nK=false:=anyN_no0 fun i _=>by simp
  have e2:anyN (fun i => !(kids i).sameB (kids i)) nL=false:=anyN_no0 fun i hi=>by rw [ih i w (hk i hi)];rfl
  rw [e1,e2]
  simp
def Sim (T U:VT):Prop:=T.sameB U=true
theorem any_off {p:Nat→Bool} {n:Nat}:anyN p n=false↔∀ i,i < n→p i=false:=⟨fun h _ hi=>anyN_no h hi,anyN_no0⟩
theorem any_same {p q:Nat→Bool} {n:Nat} (h:∀ i,i < n→p i=q i):anyN p n=anyN q n:=by
 induction n with
 | zero=>rfl
 | succ n ih=>
  show (anyN p n || p n)=(anyN q n || q n)
  rw [ih fun i hi=>h i z0b,h n z0b]
theorem sum_same {f g:Nat→Nat} {n:Nat} (h:∀ i,i < n→f i=g i):sumN f n=sumN g n:=by
 induction n with
 | zero=>rfl
 | succ n ih=>
  simp only [sumN]
  rw [ih fun i hi=>h i z0b,h n z0b]
theorem max_same {f g:Nat→Nat} {n:Nat} (h:∀ i,i < n→f i=g i):maxN f n=maxN g n:=by
 induction n with
 | zero=>rfl
 | succ n ih=>
  simp only [maxN]
  rw [ih fun i hi=>h i z0b,h n z0b]
theorem sim_mk {kind kind':Int} {neg neg':Bool} {V V' bits bits':Nat} {text text':ByteArray} {aL aL':Option Addr} {nL nL' cL cL':Nat} {kids kids':Nat→VT} {aK aK':Option Addr} {nK nK' cK cK':Nat} {keys keys':Nat→ByteArray} :
  Sim (.mk kind neg V bits text aL nL cL kids aK nK cK keys) (.mk kind' neg' V' bits' text' aL' nL' cL' kids' aK' nK' cK' keys') ↔
   (kind=kind'∧neg=neg'∧V=V'∧bits=bits'∧text=text'∧nL=nL'∧nK=nK')∧(∀ i,i < nK→keys i=keys' i)∧∀ i,i < nL→Sim (kids i) (kids' i):=by
 unfold Sim
 simp only [VT.sameB,Bool.and_eq_true,decide_eq_true_eq,Bool.not_eq_true',any_off,Bool.not_eq_false',decide_eq_false_iff_not,Decidable.not_not]
 constructor
 ·rintro ⟨⟨⟨⟨⟨⟨⟨a,b,c⟩,d⟩,e⟩,f⟩,g⟩,h⟩,i⟩
  exact ⟨⟨a,b,c,d,e,f,g⟩,h,i⟩
 ·rintro ⟨⟨a,b,c,d,e,f,g⟩,h,i⟩
  exact ⟨⟨⟨⟨⟨⟨⟨a,b,c⟩,d⟩,e⟩,f⟩,g⟩,h⟩,i⟩
theorem Sim.nil_l {U:VT} (h:Sim .nil U):False:=by
 unfold Sim VT.sameB at h
 cases h
theorem Sim.nil_r {T:VT} (h:Sim T .nil):False:=by
 cases T with
 | nil=>exact h.nil_l
 | mk=>unfold Sim at h;simp only [VT.sameB] at h;cases h
theorem Sim.self {w:World} {T:VT} (h:T.In w):Sim T T:=VT.sameB_self T w h
theorem Sim.symm:∀ {T U:VT},Sim T U→Sim U T:=by
 intro T
 induction T with
 | nil=>exact fun h=>h.nil_l.elim
 | mk kind neg V bits text aL nL cL kids aK nK cK keys ih=>
  intro U h
  cases U with
  | nil=>exact h.nil_r.elim
  | mk=>
   obtain ⟨⟨rfl,rfl,rfl,rfl,rfl,rfl,rfl⟩,hk,hl⟩:=sim_mk.1 h
   exact sim_mk.2 ⟨⟨rfl,rfl,rfl,rfl,rfl,rfl,rfl⟩,fun i hi=>(hk i hi).symm,fun i hi=>ih i (hl i hi)⟩
theorem Sim.trans:∀ {T U X:VT},Sim T U→Sim U X→Sim T X:=by
 intro T
 induction T with
 | nil=>exact fun h=>h.nil_l.elim
 | mk kind neg V bits text aL nL cL kids aK nK cK keys ih=>
  intro U X h g
  cases U with
  | nil=>exact h.nil_r.elim
  | mk=>
   cases X with
   | nil=>exact g.nil_r.elim
   | mk=>
    obtain ⟨⟨rfl,rfl,rfl,rfl,rfl,rfl,rfl⟩,hk,hl⟩:=sim_mk.1 h
    obtain ⟨⟨rfl,rfl,rfl,rfl,rfl,rfl,rfl⟩,gk,gl⟩:=sim_mk.1 g
    exact sim_mk.2 ⟨⟨rfl,rfl,rfl,rfl,rfl,rfl,rfl⟩,fun i hi=>(hk i hi).trans (gk i hi),fun i hi=>ih i (hl i hi) (gl i hi)⟩
theorem Sim.nodes:∀ {T U:VT},Sim T U→T.nodes=U.nodes:=by
 intro T
 induction T with
 | nil=>exact fun h=>h.nil_l.elim
 | mk kind neg V bits text aL nL cL kids aK nK cK keys ih=>
  intro U h
  cases U with
  | nil=>exact h.nil_r.elim
  | mk=>
   obtain ⟨⟨rfl,rfl,rfl,rfl,rfl,rfl,rfl⟩,hk,hl⟩:=sim_mk.1 h
   simp only [VT.nodes]
   rw [sum_same fun i hi=>ih i (hl i hi)]
theorem Sim.depth:∀ {T U:VT},Sim T U→T.depth=U.depth:=by
 intro T
 induction T with
 | nil=>exact fun h=>h.nil_l.elim
 | mk kind neg V bits text aL nL cL kids aK nK cK keys ih=>
  intro U h
  cases U with
  | nil=>exact h.nil_r.elim
  | mk=>
   obtain ⟨⟨rfl,rfl,rfl,rfl,rfl,rfl,rfl⟩,hk,hl⟩:=sim_mk.1 h
   simp only [VT.depth]
   rw [max_same fun i hi=>ih i (hl i hi)]
theorem Sim.long:∀ {T U:VT},Sim T U→T.long=U.long:=by
 intro T
 induction T with
 | nil=>exact fun h=>h.nil_l.elim
 | mk kind neg V bits text aL nL cL kids aK nK cK keys ih=>
  intro U h
  cases U with
  | nil=>exact h.nil_r.elim
  | mk _ _ _ _ _ _ _ _ _ _ _ _ keys'=>
   obtain ⟨⟨rfl,rfl,rfl,rfl,rfl,rfl,rfl⟩,hk,hl⟩:=sim_mk.1 h
   simp only [VT.long]
   rw [any_same fun i hi=>ih i (hl i hi),any_same (p:=fun i=>decide (4096 < (keys i).size)) (q:=fun i=>decide (4096 < (keys' i).size)) fun i hi=>by rw [hk i hi]]
theorem rise_same {keys keys':Nat→ByteArray} {n:Nat} (h:∀ i,i < n→keys i=keys' i):riseB keys n=riseB keys' n:=by
 unfold riseB
 rw [any_same fun i hi=>?_]
 unfold badKey
 rw [h i hi,show keys (i - 1)=keys' (i - 1) from h _ z0b]
theorem Sim.right:∀ {T U:VT},Sim T U→T.right=U.right:=by
 intro T
 induction T with
 | nil=>exact fun h=>h.nil_l.elim
 | mk kind neg V bits text aL nL cL kids aK nK cK keys ih=>
  intro U h
  cases U with
  | nil=>exact h.nil_r.elim
  | mk _ _ _ _ _ _ _ _ _ _ _ _ keys'=>
   obtain ⟨⟨rfl,rfl,rfl,rfl,rfl,rfl,rfl⟩,hk,hl⟩:=sim_mk.1 h
   simp only [VT.right]
   rw [any_same (p:=fun i => !(kids i).right) fun i hi=>by rw [ih i (hl i hi)]]
   unfold midB
   rw [rise_same hk]
theorem Sim.may {T U:VT} (h:Sim T U):T.may=U.may:=by
 unfold VT.may
 rw [h.depth,h.nodes,h.long,h.right]
theorem Sim.kd {T U:VT} (h:Sim T U):T.kd=U.kd:=by
 cases T with
 | nil=>exact h.nil_l.elim
 | mk=>
  cases U with
  | nil=>exact h.nil_r.elim
  | mk=>exact (sim_mk.1 h).1.1
theorem Sim.ok (M:Nat→PM) (n:Nat):∀ {T U:VT},Sim T U→T.right=true→okT M n T=okT M n U:=by
 intro T
 induction T with
 | nil=>exact fun h=>h.nil_l.elim
 | mk kind neg V bits text aL nL cL kids aK nK cK keys ih=>
  intro U h hr
  cases U with
  | nil=>exact h.nil_r.elim
  | mk _ _ _ _ _ _ _ _ kids' _ _ _ keys'=>
   obtain ⟨⟨rfl,rfl,rfl,rfl,rfl,rfl,rfl⟩,hk,hl⟩:=sim_mk.1 h
   obtain ⟨-,h8,hrk⟩:=right_parts hr
   have hm:∀ m:PM,(okT M n (.mk kind neg V bits text aL nL cL kids aK nK cK keys)).msg m=(decide (kind=8) && !anyN (fun i=>decide (placeF m (keys' i) < 0) || !memO (fldV m (keys' i)) (kids' i).kd (okT M n (kids' i))) nK):=by
    intro m
    rw [okT_msg]
    by_cases c:kind=8
    ·obtain rfl:=h8 c
     rw [any_same fun i hi=>by rw [hk i hi,(hl i hi).kd,ih i (hl i hi) (hrk i hi)]]
    ·rw [decide_eq_false c];rfl
   have ha:∀ s:ByteArray,(okT M n (.mk kind neg V bits text aL nL cL kids aK nK cK keys)).all s = !anyN (fun i => !(okT M n (kids' i)).one s) nL:=by
    intro s
    rw [okT_all,any_same fun i hi=>by rw [ih i (hl i hi) (hrk i hi)]]
   have ho:∀ s:ByteArray,(okT M n (.mk kind neg V bits text aL nL cL kids aK nK cK keys)).one s=if scalarB s=true then scT s.toList kind neg V else !decide (placeM M n s < 0) && (decide (kind=8) && !anyN (fun i=>decide (placeF (M (placeM M n s).toNat) (keys' i) < 0) || !memO (fldV (M (placeM M n s).toNat) (keys' i)) (kids' i).kd (okT M n (kids' i))) nK):=by
    intro s
    rw [okT_one,hm]
   have e:∀ a b:Ok3,a.msg=b.msg→a.one=b.one→a.all=b.all→a=b:=by
    rintro ⟨_,_,_⟩ ⟨_,_,_⟩ rfl rfl rfl
    rfl
   exact e _ _ (funext hm) (funext ho) (funext ha)
theorem Sim.valid (M:Nat→PM) (n:Nat) {T U:VT} (h:Sim T U):validB M n T=validB M n U:=by
 unfold validB
 rw [h.may]
 by_cases c:U.may=0
 ·have hr:T.right=true:=by
   rw [← h.may] at c
   unfold VT.may at c
   split at c
   ·cases c
   ·split at c
    ·cases c
    ·split at c
     ·assumption
     ·cases c
  rw [h.ok M n hr]
 ·rw [decide_eq_false c];simp
theorem may_right {T:VT} (h:T.may=0):T.depth≤16∧T.nodes≤10000∧T.long=false∧T.right=true:=by
 unfold VT.may at h
 split at h
 ·cases h
 ·split at h
  ·cases h
  ·rename_i h1 h2
   split at h
   ·rename_i h3
    have h4:¬ T.long=true:=fun c=>h2 (.inr c)
    exact ⟨by omega,by have:¬ 10000 < T.nodes:=fun c=>h2 (.inl c);omega,by simpa using h4,h3⟩
   ·cases h
def cntN (p:Nat→Bool):Nat→Nat
 | 0=>0
 | n+1=>cntN p n+(if p n=true then 1 else 0)
def selI (p:Nat→Bool):Nat→Nat→Nat
 | 0,_=>0
 | n+1,j=>if p n=true∧cntN p n=j then n else selI p n j
theorem cnt_yes {p:Nat→Bool} {n:Nat} (h:p n=true):cntN p (n+1)=cntN p n+1:=by simp only [cntN];rw [if_pos h]
theorem cnt_no {p:Nat→Bool} {n:Nat} (h:p n=false):cntN p (n+1)=cntN p n:=by simp only [cntN];rw [if_neg (by rw [h];exact Bool.false_ne_true)];rfl
theorem cnt_le {p:Nat→Bool}:∀ n,cntN p n≤n:=by
 intro n
 induction n with
 | zero=>exact Nat.le_refl _
 | succ n ih=>
  simp only [cntN]
  split <;> omega
theorem sel_old {p:Nat→Bool} {n j:Nat} (h:j < cntN p n):selI p (n+1) j=selI p n j:=by
 simp only [selI]
 rw [if_neg z0b]
theorem sel_new {p:Nat→Bool} {n:Nat} (h:p n=true):selI p (n+1) (cntN p n)=n:=by
 show (if p n=true∧cntN p n=cntN p n then n else selI p n (cntN p n))=n
 exact if_pos ⟨h,rfl⟩
theorem sel_spec {p:Nat→Bool} {n j:Nat} (h:j < cntN p n):selI p n j < n∧p (selI p n j)=true:=by
 induction n with
 | zero=>exact absurd h (Nat.not_lt_zero _)
 | succ n ih=>
  by_cases c:j < cntN p n
  ·rw [sel_old c]
   have:=ih c
   exact ⟨by omega,this.2⟩
  ·cases e:p n with
   | false=>rw [cnt_no e] at h;omega
   | true=>
    rw [cnt_yes e] at h
    obtain rfl:j=cntN p n:=by omega
    rw [sel_new e]
    exact ⟨by omega,e⟩
structure Nr2 where
 msg:PM→VT
 all:PM→VT
def keepF (f:PF):VT→Bool
 | .nil=>true
 | .mk kind neg V bits text _ nL _ _ _ _ _ _ => !leftB f kind neg V bits text nL
def keptI (m:PM) (keys:Nat→ByteArray) (kids:Nat→VT) (i:Nat):Bool:=keepF (fldV m (keys i)) (kids i)
def nrmX (M:Nat→PM) (n:Nat) (f:PF) (x:VT) (r:Nr2):VT:=
 if placeM M n f.type < 0 then x else if (f.rep || f.map)=true then r.all (M (placeM M n f.type).toNat) else r.msg (M (placeM M n f.type).toNat)
def nrm2 (M:Nat→PM) (n:Nat):VT→Nr2
 | .nil=>⟨fun _=>.nil,fun _=>.nil⟩
 | .mk kind neg V bits text aL nL cL kids aK nK cK keys=>
  ⟨fun m=>.mk 8 false 0 0 ⟨#[]⟩ none (cntN (keptI m keys kids) nK) (cntN (keptI m keys kids) nK) (fun j=>nrmX M n (fldV m (keys (selI (keptI m keys kids) nK j))) (kids (selI (keptI m keys kids) nK j)) (nrm2 M n (kids (selI (keptI m keys kids) nK j)))) none (cntN (keptI m keys kids) nK) (cntN (keptI m keys kids) nK) (fun j=>keys (selI (keptI m keys kids) nK j)),
   fun m=>.mk kind neg V bits text aL nL cL (fun j=>(nrm2 M n (kids j)).msg m) aK nK cK keys⟩
theorem nrm_msg (M:Nat→PM) (n:Nat) (kind:Int) (neg:Bool) (V bits:Nat) (text:ByteArray) (aL:Option Addr) (nL cL:Nat) (kids:Nat→VT) (aK:Option Addr) (nK cK:Nat) (keys:Nat→ByteArray) (m:PM) :
  (nrm2 M n (.mk kind neg V bits text aL nL cL kids aK nK cK keys)).msg m=.mk 8 false 0 0 ⟨#[]⟩ none (cntN (keptI m keys kids) nK) (cntN (keptI m keys kids) nK) (fun j=>nrmX M n (fldV m (keys (selI (keptI m keys kids) nK j))) (kids (selI (keptI m keys kids) nK j)) (nrm2 M n (kids (selI (keptI m keys kids) nK j)))) none (cntN (keptI m keys kids) nK) (cntN (keptI m keys kids) nK) (fun j=>keys (selI (keptI m keys kids) nK j)):=rfl
theorem nrm_all (M:Nat→PM) (n:Nat) (kind:Int) (neg:Bool) (V bits:Nat) (text:ByteArray) (aL:Option Addr) (nL cL:Nat) (kids:Nat→VT) (aK:Option Addr) (nK cK:Nat) (keys:Nat→ByteArray) (m:PM) :
  (nrm2 M n (.mk kind neg V bits text aL nL cL kids aK nK cK keys)).all m=.mk kind neg V bits text aL nL cL (fun j=>(nrm2 M n (kids j)).msg m) aK nK cK keys:=rfl
def NoScal (M:Nat→PM) (n:Nat):Prop:=∀ s,scalarB s=true→placeM M n s < 0
theorem fst_hit {p:Nat→Bool} {n:Nat} (h:0≤fstN p n):(fstN p n).toNat < n∧p (fstN p n).toNat=true:=by
 induction n with
 | zero=>exact absurd h (by show ¬ (0:Int) ≤ -1;omega)
 | succ n ih=>
  by_cases c:0≤fstN p n
  ·have e:fstN p (n+1)=fstN p n:=fstN_keep z0b z0b
   rw [e]
   have:=ih c
   exact ⟨by omega,this.2⟩
  ·have e1:fstN p n = -1:=by have:=fstN_le (p:=p) n;omega
   cases hp:p n with
   | true=>rw [fstN_hit e1 hp z0b];exact ⟨by simp,by simpa using hp⟩
   | false=>rw [fstN_on e1 hp] at h;omega
theorem check_noscal {M:Nat→PM} {n:Nat} (h:checkB M n=true):NoScal M n:=by
 intro s hs
 refine Classical.byContradiction fun c=>?_
 have h0:0≤placeM M n s:=by omega
 unfold placeM at h0
 obtain ⟨h1,h2⟩:=fst_hit h0
 generalize (fstN (fun i=>eqS (M i).name s) n).toNat=k at h1 h2
 unfold checkB at h
 rw [Bool.and_eq_true,Bool.and_eq_true,Bool.not_eq_true'] at h
 have h3:=anyN_no h.2.2 h1
 unfold msgBad headBad at h3
 simp only [Bool.or_eq_false_iff] at h3
 have h4:=h3.1.2.1
 unfold eqS at h2
 have e:(M k).name.toList=s.toList:=by simpa using h2
 unfold scalarB at hs h4
 rw [e,hs] at h4
 cases h4
theorem one_msg {M:Nat→PM} {n:Nat} (hS:NoScal M n) {s:ByteArray} (hs:0≤placeM M n s) (T:VT):(okT M n T).one s=(okT M n T).msg (M (placeM M n s).toNat):=by
 cases T with
 | nil=>rfl
 | mk kind neg V bits text aL nL cL kids aK nK cK keys=>
  rw [okT_one,if_neg (fun c=>by have:=hS s c;omega),decide_eq_false z0b]
  rfl
theorem ifT_not {p:Prop} [Decidable p] {b:Bool} (h:(if p then true else b)=false):¬ p∧b=false:=by
 by_cases c:p
 ·rw [if_pos c] at h;cases h
 ·rw [if_neg c] at h;exact ⟨c,h⟩
theorem long_parts {kind:Int} {neg:Bool} {V bits:Nat} {text:ByteArray} {aL:Option Addr} {nL cL:Nat} {kids:Nat→VT} {aK:Option Addr} {nK cK:Nat} {keys:Nat→ByteArray} :
  (VT.mk kind neg V bits text aL nL cL kids aK nK cK keys).long=false↔(nL≤1000∧nK≤1000∧text.size≤4096)∧(∀ i,i < nK→(keys i).size≤4096)∧∀ i,i < nL→(kids i).long=false:=by
 simp only [VT.long]
 constructor
 ·intro h
  obtain ⟨h1,h⟩:=ifT_not h
  obtain ⟨h2,h3⟩:=ifT_not h
  rw [Bool.not_eq_true,any_off] at h2
  rw [any_off] at h3
  exact ⟨⟨by omega,by omega,by omega⟩,fun i hi=>by have:=of_decide_eq_false (h2 i hi);omega,h3⟩
 ·rintro ⟨⟨h1,h2,h3⟩,h4,h5⟩
  rw [if_neg z0b,if_neg,any_off]
  ·exact h5
  ·rw [Bool.not_eq_true,any_off]
   exact fun i hi=>decide_eq_false (by have:=h4 i hi;omega)
theorem right_self:∀ {T:VT},T.right=true→Sim T T:=by
 intro T
 induction T with
 | nil=>intro h;cases h
 | mk kind neg V bits text aL nL cL kids aK nK cK keys ih=>
  intro h
  obtain ⟨-,-,h3⟩:=right_parts h
  exact sim_mk.2 ⟨⟨rfl,rfl,rfl,rfl,rfl,rfl,rfl⟩,fun _ _=>rfl,fun i hi=>ih i (h3 i hi)⟩
end Go.Proofs.YtfondldmmcmloaaDoor
