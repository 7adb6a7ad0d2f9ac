/- VSound. -/
import Derived.Test.YtfondldmmcmloaaDoorPd6
set_option maxRecDepth 1000000
set_option maxHeartbeats 8000000
namespace Go.Proofs.YtfondldmmcmloaaDoor
open Go Go.RowKit
theorem z7zs1 {p q:Prop} (h:q) (e:q→p:=by intro hq;(try simp only [Act.put,List.setIfInBounds_toArray,List.set_cons_zero,List.set_cons_succ]);exact hq):p:=e h
theorem z7zs2 {p q:Prop} (h:q) (e:q→p:=by intro hq;simp only [Act.put,List.setIfInBounds_toArray,List.set_cons_zero,List.set_cons_succ];exact hq):p:=e h
theorem z7zk1 {p:Prop} (h:p:=by
 (go_big_quiet_want;refine ⟨.bool true,fun w1 hw1=>?_,?_⟩;(rw [HC.out] at hw1;obtain ⟨_,_,_,_,_⟩:=(S.out.below hw1).all;simp [Oper.quietAt,go_sem, *]);refine z7zs1 ?_;go_big_quiet_on)
 (go_big_quiet_want;go_big_quiet_op;go_big_quiet_on)
 (go_big_quiet_want;go_big_quiet_op;go_big_quiet_on)
 (go_big_quiet_want;refine ⟨.slice aL 0 cL,fun w1 hw1=>?_,?_⟩;(rw [HC.out] at hw1;obtain ⟨_,_,_,_,_⟩:=(X.out.below hw1).all;simp [Oper.quietAt,go_sem, *]);refine z7zs1 ?_;go_big_quiet_on)
 (go_big_quiet_want;go_big_quiet_op;refine ⟨.bool z,fun w1 hw1=>?_,?_⟩;(rw [HC.out] at hw1 ⊢;with_reducible refine (CC.out _ (below_trans hW hw1)).mono ?_;rintro e w4 ⟨rfl,hb4⟩;exact ⟨rfl,below_trans hw1 hb4⟩);go_big_quiet_on)
 repeat (first|go_big_quiet_skip|(refine wpQuiet_skip (by rfl) ?_;refine z7zs2 ?_)|(go_big_quiet_want;go_big_quiet_op;go_big_quiet_on))
 (refine wpQuiet_nil ?_;intro w2 hw2;rw [HC.out] at hw2)
 repeat any_goals (first|go_skip|go_guarded|go_step|go_upon|(simp only [];done))
 exact bodyPost_ret (v:=.bool (!z)) z0j rfl ⟨rfl,below_trans hW hw2⟩):p:=h
theorem z7zk2 {p:Prop} (h:p:=by
 (go_big_quiet_want;go_big_quiet_op;refine ⟨.bool z,fun w1 hw1=>?_,?_⟩;(rw [HC.out] at hw1 ⊢;with_reducible refine (CC.out _ (below_trans hW hw1)).mono ?_;rintro e w4 ⟨rfl,hb4⟩;exact ⟨rfl,below_trans hw1 hb4⟩);go_big_quiet_on)
 repeat (first|go_big_quiet_skip|(refine wpQuiet_skip (by rfl) ?_;refine z7zs2 ?_)|(go_big_quiet_want;go_big_quiet_op;go_big_quiet_on))
 (refine wpQuiet_nil ?_;intro w2 hw2;rw [HC.out] at hw2)
 repeat any_goals (first|go_skip|go_guarded|go_step|go_upon|(simp only [];done))
 exact bodyPost_ret (v:=.bool (!z)) z0j rfl ⟨rfl,below_trans hW hw2⟩):p:=h
theorem z7zk3 {p:Prop} (h:p:=by
 (go_big_quiet_want;refine ⟨.bool false,fun w1 hw1=>?_,?_⟩;(rw [HC.out] at hw1;obtain ⟨_,_,_,_,_⟩:=(S.out.below hw1).all;simp [Oper.quietAt,go_sem, *]);refine z7zs1 ?_;go_big_quiet_on)
 repeat (first|go_big_quiet_skip|(refine wpQuiet_skip (by rfl) ?_;refine z7zs2 ?_)|(go_big_quiet_want;go_big_quiet_op;go_big_quiet_on))
 (refine wpQuiet_nil ?_;intro w2 hw2;rw [HC.out] at hw2)
 repeat any_goals (first|go_skip|go_guarded|go_step|go_upon|(simp only [];done))
 exact bodyPost_ret (v:=.bool false) z0j rfl ⟨rfl,below_trans hW hw2⟩):p:=h
theorem z7zk4 {p:Prop} (h:p:=by
 go_enter Tryd.func38,Tryd.ntmps38
 repeat any_goals (first|go_skip|go_guarded|go_step|go_upon|(simp only [];done))
 exact bodyPost_ret (v:=.bool false) z0j rfl ⟨rfl,zb2⟩):p:=h
theorem z7zk5 {p:Prop} (h:p:=by
 exact bodyPost_ret (v:=.bool false) z0j rfl ⟨rfl,zb2⟩):p:=h
end Go.Proofs.YtfondldmmcmloaaDoor
namespace Go.Proofs.YtfondldmmcmloaaDoor
open Go.RowKit
structure VBx (w':World) (B:Nat) (kind:Int) (neg:Bool) (V bits:Nat) (text:ByteArray) (aL:Option Addr) (nL cL:Nat) (aK:Option Addr) (nK cK:Nat):Prop where
 c:w'.cell? ⟨B,0,none⟩=some (.int .i64 kind)∧w'.cell? ⟨B,1,none⟩=some (.bool neg)∧w'.cell? ⟨B,2,none⟩=some (.int .u64 (lm V 0:Nat))∧w'.cell? ⟨B,3,none⟩=some (.int .u64 (lm V 1:Nat))∧w'.cell? ⟨B,4,none⟩=some (.int .u64 (lm V 2:Nat)) ∧
  w'.cell? ⟨B,5,none⟩=some (.int .u64 (lm V 3:Nat))∧w'.cell? ⟨B,6,none⟩=some (.int .u64 (bits:Nat))∧w'.cell? ⟨B,7,none⟩=some (.string text)∧w'.cell? ⟨B,8,none⟩=some (.slice aL nL cL)∧w'.cell? ⟨B,9,none⟩=some (.slice aK nK cK)
theorem VBx.all {w1:World} {B:Nat} {kind:Int} {neg:Bool} {V bits:Nat} {text:ByteArray} {aL:Option Addr} {nL cL:Nat} {aK:Option Addr} {nK cK:Nat} (h:VBx w1 B kind neg V bits text aL nL cL aK nK cK):w1.cell? ⟨B,0,none⟩=some (.int .i64 kind)∧w1.cell? ⟨B,1,none⟩=some (.bool neg)∧w1.cell? ⟨B,2,none⟩=some (.int .u64 (lm V 0:Nat))∧w1.cell? ⟨B,3,none⟩=some (.int .u64 (lm V 1:Nat))∧w1.cell? ⟨B,4,none⟩=some (.int .u64 (lm V 2:Nat)) ∧
  w1.cell? ⟨B,5,none⟩=some (.int .u64 (lm V 3:Nat))∧w1.cell? ⟨B,6,none⟩=some (.int .u64 (bits:Nat))∧w1.cell? ⟨B,7,none⟩=some (.string text)∧w1.cell? ⟨B,8,none⟩=some (.slice aL nL cL)∧w1.cell? ⟨B,9,none⟩=some (.slice aK nK cK):=h.c
theorem VBx.below {w1 w2:World} {B:Nat} {kind:Int} {neg:Bool} {V bits:Nat} {text:ByteArray} {aL:Option Addr} {nL cL:Nat} {aK:Option Addr} {nK cK:Nat} (h:VBx w1 B kind neg V bits text aL nL cL aK nK cK) (hb:Below w1.heap.size w1 w2):VBx w2 B kind neg V bits text aL nL cL aK nK cK:=by
 obtain ⟨h0,h1,h2,h3,h4,h5,h6,h7,h8,h9⟩:=h.c
 exact ⟨keep_cell hb h0,keep_cell hb h1,keep_cell hb h2,keep_cell hb h3,keep_cell hb h4,keep_cell hb h5,keep_cell hb h6,keep_cell hb h7,keep_cell hb h8,keep_cell hb h9⟩
structure SBx (w':World) (B:Nat) (kind:Int) (neg:Bool) (a0 a1 a2 a3 bits:Int) (text:ByteArray):Prop where
 c:w'.cell? ⟨B,0,none⟩=some (.int .i64 kind)∧w'.cell? ⟨B,1,none⟩=some (.bool neg)∧w'.cell? ⟨B,2,none⟩=some (.int .u64 a0)∧w'.cell? ⟨B,3,none⟩=some (.int .u64 a1)∧w'.cell? ⟨B,4,none⟩=some (.int .u64 a2) ∧
  w'.cell? ⟨B,5,none⟩=some (.int .u64 a3)∧w'.cell? ⟨B,6,none⟩=some (.int .u64 bits)∧w'.cell? ⟨B,7,none⟩=some (.string text)
theorem SBx.all {w1:World} {B:Nat} {kind:Int} {neg:Bool} {a0 a1 a2 a3 bits:Int} {text:ByteArray} (h:SBx w1 B kind neg a0 a1 a2 a3 bits text):w1.cell? ⟨B,0,none⟩=some (.int .i64 kind)∧w1.cell? ⟨B,1,none⟩=some (.bool neg)∧w1.cell? ⟨B,2,none⟩=some (.int .u64 a0)∧w1.cell? ⟨B,3,none⟩=some (.int .u64 a1)∧w1.cell? ⟨B,4,none⟩=some (.int .u64 a2) ∧
  w1.cell? ⟨B,5,none⟩=some (.int .u64 a3)∧w1.cell? ⟨B,6,none⟩=some (.int .u64 bits)∧w1.cell? ⟨B,7,none⟩=some (.string text):=h.c
theorem SBx.below {w1 w2:World} {B:Nat} {kind:Int} {neg:Bool} {a0 a1 a2 a3 bits:Int} {text:ByteArray} (h:SBx w1 B kind neg a0 a1 a2 a3 bits text) (hb:Below w1.heap.size w1 w2):SBx w2 B kind neg a0 a1 a2 a3 bits text:=by
 obtain ⟨h0,h1,h2,h3,h4,h5,h6,h7⟩:=h.c
 exact ⟨keep_cell hb h0,keep_cell hb h1,keep_cell hb h2,keep_cell hb h3,keep_cell hb h4,keep_cell hb h5,keep_cell hb h6,keep_cell hb h7⟩
theorem toList_inj {t t':ByteArray} (h:t.toList=t'.toList):t=t':=by
 rw [ByteArray.toList_eq,ByteArray.toList_eq] at h
 exact Go.WideShapes.bytes_inj h
def eqSc (k:Int) (s:Bool) (a0 a1 a2 a3 b:Int) (t:ByteArray) (k':Int) (s':Bool) (c0 c1 c2 c3 b':Int) (t':ByteArray):Bool:=k == k' && (s == s' && (a0 == c0 && a1 == c1 && a2 == c2 && a3 == c3)) && b == b' && decide (t=t')
@[go_sem high] theorem run_equalIn_sc (d : Nat) (k : Int) (s : Bool) (a0 a1 a2 a3 b : Int) (t : ByteArray) (k' : Int) (s' : Bool) (c0 c1 c2 c3 b' : Int) (t' : ByteArray) (w : World) :
  (Op.equalIn (d+4) 93 (.agg #[.int .i64 k,.bool s,.int .u64 a0,.int .u64 a1,.int .u64 a2,.int .u64 a3,.int .u64 b,.string t]) (.agg #[.int .i64 k',.bool s',.int .u64 c0,.int .u64 c1,.int .u64 c2,.int .u64 c3,.int .u64 b',.string t'])).run Tryd.prog w=.ok (eqSc k s a0 a1 a2 a3 b t k' s' c0 c1 c2 c3 b' t') w:=by
 have h56:=Tryd.underlying93
 have h26:=Tryd.underlying31
 have h24:=Tryd.underlying29
 unfold Op.equalIn eqSc
 simp only [Sem.run_bind,run_underlying h56,Result.andThen_ok]
 simp [go_sem]
 by_cases ek:k=k' <;> by_cases e:s=s' <;> by_cases e0:a0=c0 <;> by_cases e1:a1=c1 <;> by_cases e2:a2=c2 <;> by_cases e3:a3=c3 <;> by_cases eb:b=b' <;> by_cases et:t=t' <;> simp [ek,e,e0,e1,e2,e3,eb,et] <;> exact fun h=>et (toList_inj h)
def bareNeg (kind:Int) (neg:Bool):Bool:=if kind=3 then neg else false
def bareV (kind:Int) (V:Nat):Nat:=if kind=3 then V else 0
def bareB (kind:Int) (b:Nat):Nat:=if kind=2 then b % 2 else if kind=4 then b else 0
def bareT (kind:Int) (t:ByteArray):ByteArray:=if kind=5∨kind=6 then t else ⟨#[]⟩
def midB (kind:Int) (neg:Bool) (V bits:Nat) (text:ByteArray) (nL nK:Nat) (keys:Nat→ByteArray):Bool:=
 if kind=7 then nK == 0 else if kind=8 then nK == nL && riseB keys nK else
 nL == 0 && nK == 0 && (decide (kind=1) || decide (kind=2) || decide (kind=3) && mayI neg V || decide (kind=4) && mayF bits || decide (kind=5) && validS text || decide (kind=6))
def eqB (kind:Int) (neg:Bool) (V bits:Nat) (text:ByteArray):Bool:=decide (neg=bareNeg kind neg∧V=bareV kind V∧bits=bareB kind bits∧text=bareT kind text)
theorem eqSc_lm {k:Int} {s s':Bool} {V U b b':Nat} {t t':ByteArray} (hV:V < 2 ^ 256) (hU:U < 2 ^ 256):eqSc k s (lm V 0:Nat) (lm V 1:Nat) (lm V 2:Nat) (lm V 3:Nat) (b:Nat) t k s' (lm U 0:Nat) (lm U 1:Nat) (lm U 2:Nat) (lm U 3:Nat) (b':Nat) t'=decide (s=s'∧V=U∧b=b'∧t=t'):=by
 unfold eqSc
 by_cases c:V=U
 ·subst c
  have eb:((b:Nat):Int)=((b':Nat):Int)↔b=b':=by omega
  by_cases e:s=s' <;> by_cases e2:b=b' <;> by_cases et:t=t' <;> simp [e,e2,eb,et]
 ·rw [show decide (s=s'∧V=U∧b=b'∧t=t')=false from decide_eq_false (fun h=>c h.2.1),← Bool.not_eq_true]
  intro h
  simp only [Bool.and_eq_true,beq_iff_eq] at h
  exact c (lm_inj hV hU z0b z0b z0b z0b)
def VT.right:VT→Bool
 | .nil=>false
 | .mk kind neg V bits text _ nL _ kids _ nK _ keys=>midB kind neg V bits text nL nK keys && eqB kind neg V bits text && !anyN (fun i => !(kids i).right) nL
theorem VOf_any (kind:Int) (neg:Bool) (V bits:Nat) (text:ByteArray) (aL:Option Addr) (nL cL:Nat) (aK:Option Addr) (nK cK:Nat) (w:World) :
  Calls Tryd.prog 62 #[.agg #[.int .i64 kind,.bool neg,.int .u64 (lm V 0:Nat),.int .u64 (lm V 1:Nat),.int .u64 (lm V 2:Nat),.int .u64 (lm V 3:Nat),.int .u64 (bits:Nat),.string text,.slice aL nL cL,.slice aK nK cK]] w fun e w'=>e=.returned (.agg #[.int .i64 (kind),.bool (neg),.int .u64 (lm (V) 0:Nat),.int .u64 (lm (V) 1:Nat),.int .u64 (lm (V) 2:Nat),.int .u64 (lm (V) 3:Nat),.int .u64 ((bits:Nat)),.string (text)])∧Below w.heap.size w w':=by
 go_enter Tryd.func62,Tryd.ntmps62
 repeat any_goals (first|go_skip|go_guarded|go_step|go_upon|(simp only [];done))
 exact bodyPost_ret (v:=.agg #[.int .i64 (kind),.bool (neg),.int .u64 (lm (V) 0:Nat),.int .u64 (lm (V) 1:Nat),.int .u64 (lm (V) 2:Nat),.int .u64 (lm (V) 3:Nat),.int .u64 ((bits:Nat)),.string (text)]) (by simp [results,Tryd.results62,go_sem]) rfl ⟨rfl,zb2⟩
theorem sound1_any (T:VT) (x:Bool) (w:World) (hT:T.In w) (hC:∀ w':World,Below w.heap.size w w'→Calls Tryd.prog 38 #[T.agg] w' fun e w2=>e=.returned (.bool x)∧Below w'.heap.size w' w2) :
  Calls Tryd.prog 63 #[T.agg] w fun e w'=>e=.returned (.bool (!x))∧Below w.heap.size w w':=by
 cases T with
 | nil=>exact hT.elim
 | mk kind neg V bits text aL nL cL kids aK nK cK keys=>
  simp only [VT.agg,VT.cells] at hC ⊢
  have HC:=Lib.hid hC
  clear hC hT
  go_enter Tryd.func63,Tryd.ntmps63
  repeat any_goals (first|(go_at_call 38;refine (HC.out _ zb2).mono ?_;rintro e w1 ⟨rfl,hb1⟩)|go_skip|go_guarded|go_step|go_upon|(dsimp only []))
  exact bodyPost_ret (v:=.bool (!x)) (by simp [results,Tryd.results63,go_sem]) rfl ⟨rfl,zb2⟩
theorem eg_sound1 (args:Array Value) (W:World):(callFunc 63 args).run Tryd.prog W=.ok (.enter 63 args) W:=enters_of Tryd.func63 z0a rfl args W
/-- an array -/
theorem sound_7 (neg:Bool) (V bits:Nat) (text:ByteArray) (aL:Option Addr) (nL cL:Nat) (aK:Option Addr) (nK cK:Nat) (w:World) (R z d:Bool) (hlK:nK≤cK)
  (HR:Hid (R=(nK == 0 && d && !z))) (hd:eqSc 7 neg (lm V 0:Nat) (lm V 1:Nat) (lm V 2:Nat) (lm V 3:Nat) (bits:Nat) text 7 false 0 0 0 0 0 ⟨#[]⟩=d)
  (CC:Hid (∀ wr:World,Below w.heap.size w wr→Calls Tryd.prog 57 #[.slice aL nL cL,.func (.func 63) #[] #[]] wr fun e w'=>e=.returned (.bool z)∧Below wr.heap.size wr w')) :
  Calls Tryd.prog 38 #[.agg #[.int .i64 7,.bool neg,.int .u64 (lm V 0:Nat),.int .u64 (lm V 1:Nat),.int .u64 (lm V 2:Nat),.int .u64 (lm V 3:Nat),.int .u64 (bits:Nat),.string text,.slice aL nL cL,.slice aK nK cK]] w fun e w'=>e=.returned (.bool R)∧Below w.heap.size w w':=by
 by_cases k0:nK=0
 ·subst k0
  have HR2:Hid (R=(d && !z)):=Lib.hid (by rw [HR.out];rfl)
  clear HR
  go_enter Tryd.func38,Tryd.ntmps38
  go_upto_region 27 with fail
  have hW:Below w.heap.size w ((w.alloc (.cells #[.int .i64 7,.bool neg,.int .u64 (lm V 0:Nat),.int .u64 (lm V 1:Nat),.int .u64 (lm V 2:Nat),.int .u64 (lm V 3:Nat),.int .u64 (bits:Nat),.string text,.slice aL nL cL,.slice aK 0 cK] 35)).alloc (.cells #[.int .i64 7,.bool false,.int .u64 0,.int .u64 0,.int .u64 0,.int .u64 0,.int .u64 0,.string ⟨#[]⟩] 93)):=zb2
  have X:=Lib.hid (show VBx ((w.alloc (.cells #[.int .i64 7,.bool neg,.int .u64 (lm V 0:Nat),.int .u64 (lm V 1:Nat),.int .u64 (lm V 2:Nat),.int .u64 (lm V 3:Nat),.int .u64 (bits:Nat),.string text,.slice aL nL cL,.slice aK 0 cK] 35)).alloc (.cells #[.int .i64 7,.bool false,.int .u64 0,.int .u64 0,.int .u64 0,.int .u64 0,.int .u64 0,.string ⟨#[]⟩] 93)) w.heap.size 7 neg V bits text aL nL cL aK 0 cK from ⟨by simp [go_sem]⟩)
  have S:=Lib.hid (show SBx ((w.alloc (.cells #[.int .i64 7,.bool neg,.int .u64 (lm V 0:Nat),.int .u64 (lm V 1:Nat),.int .u64 (lm V 2:Nat),.int .u64 (lm V 3:Nat),.int .u64 (bits:Nat),.string text,.slice aL nL cL,.slice aK 0 cK] 35)).alloc (.cells #[.int .i64 7,.bool false,.int .u64 0,.int .u64 0,.int .u64 0,.int .u64 0,.int .u64 0,.string ⟨#[]⟩] 93)) (w.heap.size+1) 7 false 0 0 0 0 0 ⟨#[]⟩ from ⟨by simp [go_sem]⟩)
  generalize ((w.alloc (.cells #[.int .i64 7,.bool neg,.int .u64 (lm V 0:Nat),.int .u64 (lm V 1:Nat),.int .u64 (lm V 2:Nat),.int .u64 (lm V 3:Nat),.int .u64 (bits:Nat),.string text,.slice aL nL cL,.slice aK 0 cK] 35)).alloc (.cells #[.int .i64 7,.bool false,.int .u64 0,.int .u64 0,.int .u64 0,.int .u64 0,.int .u64 0,.string ⟨#[]⟩] 93))=W at *
  cases d with
  | false=>
   have e:=HR2.out
   rw [Bool.false_and] at e
   subst e
   (obtain ⟨C_,hC⟩:∃ C:World→Prop,C=fun w'=>Below (W).heap.size (W) w':=⟨_,rfl⟩;have HC:=Lib.hid hC;have hne:∀ p:Prop,(∀ w1:World,C_ w1→p)=p:=fun p=>propext ⟨fun h=>h (W) z0i,fun h _ _=>h⟩;clear hC;refine wp_region_quiet_cls (C:=C_) z0a z0a z0d ?_)
   (go_big_quiet_want;refine ⟨.agg #[.int .i64 7,.bool neg,.int .u64 (lm V 0:Nat),.int .u64 (lm V 1:Nat),.int .u64 (lm V 2:Nat),.int .u64 (lm V 3:Nat),.int .u64 (bits:Nat),.string text,.slice aL nL cL,.slice aK 0 cK],fun w1 hw1=>?_,?_⟩;(rw [HC.out] at hw1;obtain ⟨_,_,_,_,_⟩:=(X.out.below hw1).all;simp [Oper.quietAt,go_sem, *]);refine z7zs1 ?_;go_big_quiet_on)
   (go_big_quiet_want;go_big_quiet_op;refine ⟨.agg #[.int .i64 (7),.bool (neg),.int .u64 (lm (V) 0:Nat),.int .u64 (lm (V) 1:Nat),.int .u64 (lm (V) 2:Nat),.int .u64 (lm (V) 3:Nat),.int .u64 ((bits:Nat)),.string (text)],fun w1 hw1=>?_,?_⟩;(rw [HC.out] at hw1 ⊢;with_reducible refine (VOf_any _ _ _ _ _ _ _ _ _ _ _ _).mono ?_;rintro e w4 ⟨rfl,hb4⟩;exact ⟨rfl,below_trans hw1 hb4⟩);go_big_quiet_on)
   (go_big_quiet_want;refine ⟨.agg #[.int .i64 (7),.bool (false),.int .u64 (0),.int .u64 (0),.int .u64 (0),.int .u64 (0),.int .u64 (0),.string (⟨#[]⟩)],fun w1 hw1=>?_,?_⟩;(rw [HC.out] at hw1;obtain ⟨_,_,_,_,_⟩:=(S.out.below hw1).all;simp [Oper.quietAt,go_sem, *]);refine z7zs1 ?_;go_big_quiet_on)
   exact z7zk3
  | true=>
   have e:=HR2.out
   rw [Bool.true_and] at e
   subst e
   (obtain ⟨C_,hC⟩:∃ C:World→Prop,C=fun w'=>Below (W).heap.size (W) w':=⟨_,rfl⟩;have HC:=Lib.hid hC;have hne:∀ p:Prop,(∀ w1:World,C_ w1→p)=p:=fun p=>propext ⟨fun h=>h (W) z0i,fun h _ _=>h⟩;clear hC;refine wp_region_quiet_cls (C:=C_) z0a z0a z0d ?_)
   (go_big_quiet_want;refine ⟨.agg #[.int .i64 7,.bool neg,.int .u64 (lm V 0:Nat),.int .u64 (lm V 1:Nat),.int .u64 (lm V 2:Nat),.int .u64 (lm V 3:Nat),.int .u64 (bits:Nat),.string text,.slice aL nL cL,.slice aK 0 cK],fun w1 hw1=>?_,?_⟩;(rw [HC.out] at hw1;obtain ⟨_,_,_,_,_⟩:=(X.out.below hw1).all;simp [Oper.quietAt,go_sem, *]);refine z7zs1 ?_;go_big_quiet_on)
   (go_big_quiet_want;go_big_quiet_op;refine ⟨.agg #[.int .i64 (7),.bool (neg),.int .u64 (lm (V) 0:Nat),.int .u64 (lm (V) 1:Nat),.int .u64 (lm (V) 2:Nat),.int .u64 (lm (V) 3:Nat),.int .u64 ((bits:Nat)),.string (text)],fun w1 hw1=>?_,?_⟩;(rw [HC.out] at hw1 ⊢;with_reducible refine (VOf_any _ _ _ _ _ _ _ _ _ _ _ _).mono ?_;rintro e w4 ⟨rfl,hb4⟩;exact ⟨rfl,below_trans hw1 hb4⟩);go_big_quiet_on)
   (go_big_quiet_want;refine ⟨.agg #[.int .i64 (7),.bool (false),.int .u64 (0),.int .u64 (0),.int .u64 (0),.int .u64 (0),.int .u64 (0),.string (⟨#[]⟩)],fun w1 hw1=>?_,?_⟩;(rw [HC.out] at hw1;obtain ⟨_,_,_,_,_⟩:=(S.out.below hw1).all;simp [Oper.quietAt,go_sem, *]);refine z7zs1 ?_;go_big_quiet_on)
   (go_big_quiet_want;refine ⟨.bool true,fun w1 hw1=>?_,?_⟩;(rw [HC.out] at hw1;obtain ⟨_,_,_,_,_⟩:=(S.out.below hw1).all;simp [Oper.quietAt,go_sem, *]);refine z7zs1 ?_;go_big_quiet_on)
   (go_big_quiet_want;go_big_quiet_op;go_big_quiet_on)
   (go_big_quiet_want;go_big_quiet_op;go_big_quiet_on)
   (go_big_quiet_want;refine ⟨.slice aL nL cL,fun w1 hw1=>?_,?_⟩;(rw [HC.out] at hw1;obtain ⟨_,_,_,_,_⟩:=(X.out.below hw1).all;simp [Oper.quietAt,go_sem, *]);refine z7zs1 ?_;go_big_quiet_on)
   exact z7zk2
 ·have k0i:(0:Int) < (nK:Int):=by omega
  have e:=HR.out
  rw [show (nK == 0)=false from by simpa using k0,Bool.false_and,Bool.false_and] at e
  subst e
  clear HR
  exact z7zk4

theorem sound_8 (r:Bool) (neg:Bool) (V bits:Nat) (text:ByteArray) (aL:Option Addr) (nL cL:Nat) (aK:Option Addr) (nK cK:Nat) (w:World) (R z d:Bool) (hlL:nL≤cL)
  (HR:Hid (R=(nK == nL && r && d && !z))) (hd:eqSc 8 neg (lm V 0:Nat) (lm V 1:Nat) (lm V 2:Nat) (lm V 3:Nat) (bits:Nat) text 8 false 0 0 0 0 0 ⟨#[]⟩=d)
  (C1:Hid (∀ wr:World,Below w.heap.size w wr→Calls Tryd.prog 58 #[.slice aK nK cK] wr fun e w'=>e=.returned (.bool r)∧Below wr.heap.size wr w'))
  (CC:Hid (∀ wr:World,Below w.heap.size w wr→Calls Tryd.prog 57 #[.slice aL nL cL,.func (.func 63) #[] #[]] wr fun e w'=>e=.returned (.bool z)∧Below wr.heap.size wr w')) :
  Calls Tryd.prog 38 #[.agg #[.int .i64 8,.bool neg,.int .u64 (lm V 0:Nat),.int .u64 (lm V 1:Nat),.int .u64 (lm V 2:Nat),.int .u64 (lm V 3:Nat),.int .u64 (bits:Nat),.string text,.slice aL nL cL,.slice aK nK cK]] w fun e w'=>e=.returned (.bool R)∧Below w.heap.size w w':=by
 by_cases k0:nK=nL
 ·subst k0
  cases r with
  | false=>
   have e:R=false:=by rw [HR.out];simp
   subst e
   clear HR
   go_enter Tryd.func38,Tryd.ntmps38
   repeat any_goals (first|(go_at_call 58;refine (C1.out _ zb2).mono ?_;rintro e w1 ⟨rfl,hb1⟩)|go_skip|go_guarded|go_step|go_upon|(dsimp only []))
   exact z7zk5
  | true=>
   have HR2:Hid (R=(d && !z)):=Lib.hid (by rw [HR.out];simp)
   clear HR
   go_enter Tryd.func38,Tryd.ntmps38
   go_upto_region 27 with (go_at_call 58;refine (C1.out _ zb2).mono ?_;rintro e w1 ⟨rfl,hb1⟩)
   have hW:Below w.heap.size w w1:=zb2
   have X:=Lib.hid (show VBx w1 w.heap.size 8 neg V bits text aL nK cL aK nK cK from VBx.below (w1:=((w.alloc (.cells #[.int .i64 8,.bool neg,.int .u64 (lm V 0:Nat),.int .u64 (lm V 1:Nat),.int .u64 (lm V 2:Nat),.int .u64 (lm V 3:Nat),.int .u64 (bits:Nat),.string text,.slice aL nK cL,.slice aK nK cK] 35)).alloc (.cells #[.int .i64 8,.bool false,.int .u64 0,.int .u64 0,.int .u64 0,.int .u64 0,.int .u64 0,.string ⟨#[]⟩] 93))) ⟨by simp [go_sem]⟩ (by simpa using hb1))
   have S:=Lib.hid (show SBx w1 (w.heap.size+1) 8 false 0 0 0 0 0 ⟨#[]⟩ from SBx.below (w1:=((w.alloc (.cells #[.int .i64 8,.bool neg,.int .u64 (lm V 0:Nat),.int .u64 (lm V 1:Nat),.int .u64 (lm V 2:Nat),.int .u64 (lm V 3:Nat),.int .u64 (bits:Nat),.string text,.slice aL nK cL,.slice aK nK cK] 35)).alloc (.cells #[.int .i64 8,.bool false,.int .u64 0,.int .u64 0,.int .u64 0,.int .u64 0,.int .u64 0,.string ⟨#[]⟩] 93))) ⟨by simp [go_sem]⟩ (by simpa using hb1))
   clear hb1
   generalize w1=W at *
   cases d with
   | false=>
    have e:=HR2.out
    rw [Bool.false_and] at e
    subst e
    (obtain ⟨C_,hC⟩:∃ C:World→Prop,C=fun w'=>Below (W).heap.size (W) w':=⟨_,rfl⟩;have HC:=Lib.hid hC;have hne:∀ p:Prop,(∀ w1:World,C_ w1→p)=p:=fun p=>propext ⟨fun h=>h (W) z0i,fun h _ _=>h⟩;clear hC;refine wp_region_quiet_cls (C:=C_) z0a z0a z0d ?_)
    (go_big_quiet_want;refine ⟨.agg #[.int .i64 8,.bool neg,.int .u64 (lm V 0:Nat),.int .u64 (lm V 1:Nat),.int .u64 (lm V 2:Nat),.int .u64 (lm V 3:Nat),.int .u64 (bits:Nat),.string text,.slice aL nK cL,.slice aK nK cK],fun w1 hw1=>?_,?_⟩;(rw [HC.out] at hw1;obtain ⟨_,_,_,_,_⟩:=(X.out.below hw1).all;simp [Oper.quietAt,go_sem, *]);refine z7zs1 ?_;go_big_quiet_on)
    (go_big_quiet_want;go_big_quiet_op;refine ⟨.agg #[.int .i64 (8),.bool (neg),.int .u64 (lm (V) 0:Nat),.int .u64 (lm (V) 1:Nat),.int .u64 (lm (V) 2:Nat),.int .u64 (lm (V) 3:Nat),.int .u64 ((bits:Nat)),.string (text)],fun w1 hw1=>?_,?_⟩;(rw [HC.out] at hw1 ⊢;with_reducible refine (VOf_any _ _ _ _ _ _ _ _ _ _ _ _).mono ?_;rintro e w4 ⟨rfl,hb4⟩;exact ⟨rfl,below_trans hw1 hb4⟩);go_big_quiet_on)
    (go_big_quiet_want;refine ⟨.agg #[.int .i64 (8),.bool (false),.int .u64 (0),.int .u64 (0),.int .u64 (0),.int .u64 (0),.int .u64 (0),.string (⟨#[]⟩)],fun w1 hw1=>?_,?_⟩;(rw [HC.out] at hw1;obtain ⟨_,_,_,_,_⟩:=(S.out.below hw1).all;simp [Oper.quietAt,go_sem, *]);refine z7zs1 ?_;go_big_quiet_on)
    exact z7zk3
   | true=>
    have e:=HR2.out
    rw [Bool.true_and] at e
    subst e
    (obtain ⟨C_,hC⟩:∃ C:World→Prop,C=fun w'=>Below (W).heap.size (W) w':=⟨_,rfl⟩;have HC:=Lib.hid hC;have hne:∀ p:Prop,(∀ w1:World,C_ w1→p)=p:=fun p=>propext ⟨fun h=>h (W) z0i,fun h _ _=>h⟩;clear hC;refine wp_region_quiet_cls (C:=C_) z0a z0a z0d ?_)
    (go_big_quiet_want;refine ⟨.agg #[.int .i64 8,.bool neg,.int .u64 (lm V 0:Nat),.int .u64 (lm V 1:Nat),.int .u64 (lm V 2:Nat),.int .u64 (lm V 3:Nat),.int .u64 (bits:Nat),.string text,.slice aL nK cL,.slice aK nK cK],fun w1 hw1=>?_,?_⟩;(rw [HC.out] at hw1;obtain ⟨_,_,_,_,_⟩:=(X.out.below hw1).all;simp [Oper.quietAt,go_sem, *]);refine z7zs1 ?_;go_big_quiet_on)
    (go_big_quiet_want;go_big_quiet_op;refine ⟨.agg #[.int .i64 (8),.bool (neg),.int .u64 (lm (V) 0:Nat),.int .u64 (lm (V) 1:Nat),.int .u64 (lm (V) 2:Nat),.int .u64 (lm (V) 3:Nat),.int .u64 ((bits:Nat)),.string (text)],fun w1 hw1=>?_,?_⟩;(rw [HC.out] at hw1 ⊢;with_reducible refine (VOf_any _ _ _ _ _ _ _ _ _ _ _ _).mono ?_;rintro e w4 ⟨rfl,hb4⟩;exact ⟨rfl,below_trans hw1 hb4⟩);go_big_quiet_on)
    (go_big_quiet_want;refine ⟨.agg #[.int .i64 (8),.bool (false),.int .u64 (0),.int .u64 (0),.int .u64 (0),.int .u64 (0),.int .u64 (0),.string (⟨#[]⟩)],fun w1 hw1=>?_,?_⟩;(rw [HC.out] at hw1;obtain ⟨_,_,_,_,_⟩:=(S.out.below hw1).all;simp [Oper.quietAt,go_sem, *]);refine z7zs1 ?_;go_big_quiet_on)
    (go_big_quiet_want;refine ⟨.bool true,fun w1 hw1=>?_,?_⟩;(rw [HC.out] at hw1;obtain ⟨_,_,_,_,_⟩:=(S.out.below hw1).all;simp [Oper.quietAt,go_sem, *]);refine z7zs1 ?_;go_big_quiet_on)
    (go_big_quiet_want;go_big_quiet_op;go_big_quiet_on)
    (go_big_quiet_want;go_big_quiet_op;go_big_quiet_on)
    (go_big_quiet_want;refine ⟨.slice aL nK cL,fun w1 hw1=>?_,?_⟩;(rw [HC.out] at hw1;obtain ⟨_,_,_,_,_⟩:=(X.out.below hw1).all;simp [Oper.quietAt,go_sem, *]);refine z7zs1 ?_;go_big_quiet_on)
    exact z7zk2
 ·have k0i:((nK:Int) == (nL:Int))=false:=by simp;omega
  have e:=HR.out
  rw [show (nK == nL)=false from by simpa using k0,Bool.false_and,Bool.false_and,Bool.false_and] at e
  subst e
  clear HR
  exact z7zk4
theorem sound_no (kind:Int) (neg:Bool) (V bits:Nat) (text:ByteArray) (aL:Option Addr) (nL cL:Nat) (aK:Option Addr) (nK cK:Nat) (w:World) (hlL:nL≤cL)
  (h7:(kind == 7)=false) (h8:(kind == 8)=false) (h:0 < nL∨nL=0∧0 < nK) :
  Calls Tryd.prog 38 #[.agg #[.int .i64 kind,.bool neg,.int .u64 (lm V 0:Nat),.int .u64 (lm V 1:Nat),.int .u64 (lm V 2:Nat),.int .u64 (lm V 3:Nat),.int .u64 (bits:Nat),.string text,.slice aL nL cL,.slice aK nK cK]] w fun e w'=>e=.returned (.bool false)∧Below w.heap.size w w':=by
 rcases h with h|⟨rfl,h⟩
 ·have hi:(0:Int) < (nL:Int):=by omega
  exact z7zk4
 ·have hi:(0:Int) < (nK:Int):=by omega
  exact z7zk4
theorem sound_else (kind:Int) (neg:Bool) (V bits:Nat) (text:ByteArray) (aL:Option Addr) (cL:Nat) (aK:Option Addr) (cK:Nat) (w:World)
  (h1:¬ kind=1) (h2:¬ kind=2) (h3:¬ kind=3) (h4:¬ kind=4) (h5:¬ kind=5) (h6:¬ kind=6) (h7:¬ kind=7) (h8:¬ kind=8) :
  Calls Tryd.prog 38 #[.agg #[.int .i64 kind,.bool neg,.int .u64 (lm V 0:Nat),.int .u64 (lm V 1:Nat),.int .u64 (lm V 2:Nat),.int .u64 (lm V 3:Nat),.int .u64 (bits:Nat),.string text,.slice aL 0 cL,.slice aK 0 cK]] w fun e w'=>e=.returned (.bool false)∧Below w.heap.size w w':=by
 exact z7zk4
theorem sound_1 (neg:Bool) (V bits:Nat) (text:ByteArray) (aL:Option Addr) (cL:Nat) (aK:Option Addr) (cK:Nat) (w:World) (R z d:Bool)
  (HR2:Hid (R=(d && !z))) (hd:eqSc 1 neg (lm V 0:Nat) (lm V 1:Nat) (lm V 2:Nat) (lm V 3:Nat) (bits:Nat) text 1 false 0 0 0 0 0 ⟨#[]⟩=d)
  (CC:Hid (∀ wr:World,Below w.heap.size w wr→Calls Tryd.prog 57 #[.slice aL 0 cL,.func (.func 63) #[] #[]] wr fun e w'=>e=.returned (.bool z)∧Below wr.heap.size wr w')) :
  Calls Tryd.prog 38 #[.agg #[.int .i64 1,.bool neg,.int .u64 (lm V 0:Nat),.int .u64 (lm V 1:Nat),.int .u64 (lm V 2:Nat),.int .u64 (lm V 3:Nat),.int .u64 (bits:Nat),.string text,.slice aL 0 cL,.slice aK 0 cK]] w fun e w'=>e=.returned (.bool R)∧Below w.heap.size w w':=by
 go_enter Tryd.func38,Tryd.ntmps38
 go_upto_region 27 with fail
 have hW:Below w.heap.size w ((w.alloc (.cells #[.int .i64 1,.bool neg,.int .u64 (lm V 0:Nat),.int .u64 (lm V 1:Nat),.int .u64 (lm V 2:Nat),.int .u64 (lm V 3:Nat),.int .u64 (bits:Nat),.string text,.slice aL 0 cL,.slice aK 0 cK] 35)).alloc (.cells #[.int .i64 1,.bool false,.int .u64 0,.int .u64 0,.int .u64 0,.int .u64 0,.int .u64 0,.string ⟨#[]⟩] 93)):=zb2
 have X:=Lib.hid (show VBx ((w.alloc (.cells #[.int .i64 1,.bool neg,.int .u64 (lm V 0:Nat),.int .u64 (lm V 1:Nat),.int .u64 (lm V 2:Nat),.int .u64 (lm V 3:Nat),.int .u64 (bits:Nat),.string text,.slice aL 0 cL,.slice aK 0 cK] 35)).alloc (.cells #[.int .i64 1,.bool false,.int .u64 0,.int .u64 0,.int .u64 0,.int .u64 0,.int .u64 0,.string ⟨#[]⟩] 93)) w.heap.size 1 neg V bits text aL 0 cL aK 0 cK from ⟨by simp [go_sem]⟩)
 have S:=Lib.hid (show SBx ((w.alloc (.cells #[.int .i64 1,.bool neg,.int .u64 (lm V 0:Nat),.int .u64 (lm V 1:Nat),.int .u64 (lm V 2:Nat),.int .u64 (lm V 3:Nat),.int .u64 (bits:Nat),.string text,.slice aL 0 cL,.slice aK 0 cK] 35)).alloc (.cells #[.int .i64 1,.bool false,.int .u64 0,.int .u64 0,.int .u64 0,.int .u64 0,.int .u64 0,.string ⟨#[]⟩] 93)) (w.heap.size+1) 1 false (0) (0) (0) (0) (0) ⟨#[]⟩ from ⟨by simp [go_sem]⟩)
 generalize ((w.alloc (.cells #[.int .i64 1,.bool neg,.int .u64 (lm V 0:Nat),.int .u64 (lm V 1:Nat),.int .u64 (lm V 2:Nat),.int .u64 (lm V 3:Nat),.int .u64 (bits:Nat),.string text,.slice aL 0 cL,.slice aK 0 cK] 35)).alloc (.cells #[.int .i64 1,.bool false,.int .u64 0,.int .u64 0,.int .u64 0,.int .u64 0,.int .u64 0,.string ⟨#[]⟩] 93))=W at *
 cases d with
 | false=>
  have e:=HR2.out
  rw [Bool.false_and] at e
  subst e
  (obtain ⟨C_,hC⟩:∃ C:World→Prop,C=fun w'=>Below (W).heap.size (W) w':=⟨_,rfl⟩;have HC:=Lib.hid hC;have hne:∀ p:Prop,(∀ w1:World,C_ w1→p)=p:=fun p=>propext ⟨fun h=>h (W) z0i,fun h _ _=>h⟩;clear hC;refine wp_region_quiet_cls (C:=C_) z0a z0a z0d ?_)
  (go_big_quiet_want;refine ⟨.agg #[.int .i64 1,.bool neg,.int .u64 (lm V 0:Nat),.int .u64 (lm V 1:Nat),.int .u64 (lm V 2:Nat),.int .u64 (lm V 3:Nat),.int .u64 (bits:Nat),.string text,.slice aL 0 cL,.slice aK 0 cK],fun w1 hw1=>?_,?_⟩;(rw [HC.out] at hw1;obtain ⟨_,_,_,_,_⟩:=(X.out.below hw1).all;simp [Oper.quietAt,go_sem, *]);refine z7zs1 ?_;go_big_quiet_on)
  (go_big_quiet_want;go_big_quiet_op;refine ⟨.agg #[.int .i64 (1),.bool (neg),.int .u64 (lm (V) 0:Nat),.int .u64 (lm (V) 1:Nat),.int .u64 (lm (V) 2:Nat),.int .u64 (lm (V) 3:Nat),.int .u64 ((bits:Nat)),.string (text)],fun w1 hw1=>?_,?_⟩;(rw [HC.out] at hw1 ⊢;with_reducible refine (VOf_any _ _ _ _ _ _ _ _ _ _ _ _).mono ?_;rintro e w4 ⟨rfl,hb4⟩;exact ⟨rfl,below_trans hw1 hb4⟩);go_big_quiet_on)
  (go_big_quiet_want;refine ⟨.agg #[.int .i64 (1),.bool (false),.int .u64 (0),.int .u64 (0),.int .u64 (0),.int .u64 (0),.int .u64 (0),.string (⟨#[]⟩)],fun w1 hw1=>?_,?_⟩;(rw [HC.out] at hw1;obtain ⟨_,_,_,_,_⟩:=(S.out.below hw1).all;simp [Oper.quietAt,go_sem, *]);refine z7zs1 ?_;go_big_quiet_on)
  exact z7zk3
 | true=>
  have e:=HR2.out
  rw [Bool.true_and] at e
  subst e
  (obtain ⟨C_,hC⟩:∃ C:World→Prop,C=fun w'=>Below (W).heap.size (W) w':=⟨_,rfl⟩;have HC:=Lib.hid hC;have hne:∀ p:Prop,(∀ w1:World,C_ w1→p)=p:=fun p=>propext ⟨fun h=>h (W) z0i,fun h _ _=>h⟩;clear hC;refine wp_region_quiet_cls (C:=C_) z0a z0a z0d ?_)
  (go_big_quiet_want;refine ⟨.agg #[.int .i64 1,.bool neg,.int .u64 (lm V 0:Nat),.int .u64 (lm V 1:Nat),.int .u64 (lm V 2:Nat),.int .u64 (lm V 3:Nat),.int .u64 (bits:Nat),.string text,.slice aL 0 cL,.slice aK 0 cK],fun w1 hw1=>?_,?_⟩;(rw [HC.out] at hw1;obtain ⟨_,_,_,_,_⟩:=(X.out.below hw1).all;simp [Oper.quietAt,go_sem, *]);refine z7zs1 ?_;go_big_quiet_on)
  (go_big_quiet_want;go_big_quiet_op;refine ⟨.agg #[.int .i64 (1),.bool (neg),.int .u64 (lm (V) 0:Nat),.int .u64 (lm (V) 1:Nat),.int .u64 (lm (V) 2:Nat),.int .u64 (lm (V) 3:Nat),.int .u64 ((bits:Nat)),.string (text)],fun w1 hw1=>?_,?_⟩;(rw [HC.out] at hw1 ⊢;with_reducible refine (VOf_any _ _ _ _ _ _ _ _ _ _ _ _).mono ?_;rintro e w4 ⟨rfl,hb4⟩;exact ⟨rfl,below_trans hw1 hb4⟩);go_big_quiet_on)
  (go_big_quiet_want;refine ⟨.agg #[.int .i64 (1),.bool (false),.int .u64 (0),.int .u64 (0),.int .u64 (0),.int .u64 (0),.int .u64 (0),.string (⟨#[]⟩)],fun w1 hw1=>?_,?_⟩;(rw [HC.out] at hw1;obtain ⟨_,_,_,_,_⟩:=(S.out.below hw1).all;simp [Oper.quietAt,go_sem, *]);refine z7zs1 ?_;go_big_quiet_on)
  exact z7zk1
theorem sound_2 (neg:Bool) (V bits:Nat) (text:ByteArray) (aL:Option Addr) (cL:Nat) (aK:Option Addr) (cK:Nat) (w:World) (R z d:Bool)
  (q:Int) (HR2:Hid (R=(d && !z))) (hd:eqSc 2 neg (lm V 0:Nat) (lm V 1:Nat) (lm V 2:Nat) (lm V 3:Nat) (bits:Nat) text 2 false 0 0 0 0 q ⟨#[]⟩=d) (hq:Go.bits .and .u64 (bits:Int) 1=q)
  (CC:Hid (∀ wr:World,Below w.heap.size w wr→Calls Tryd.prog 57 #[.slice aL 0 cL,.func (.func 63) #[] #[]] wr fun e w'=>e=.returned (.bool z)∧Below wr.heap.size wr w')) :
  Calls Tryd.prog 38 #[.agg #[.int .i64 2,.bool neg,.int .u64 (lm V 0:Nat),.int .u64 (lm V 1:Nat),.int .u64 (lm V 2:Nat),.int .u64 (lm V 3:Nat),.int .u64 (bits:Nat),.string text,.slice aL 0 cL,.slice aK 0 cK]] w fun e w'=>e=.returned (.bool R)∧Below w.heap.size w w':=by
 go_enter Tryd.func38,Tryd.ntmps38
 go_upto_region 27 with fail
 have hW:Below w.heap.size w ((w.alloc (.cells #[.int .i64 2,.bool neg,.int .u64 (lm V 0:Nat),.int .u64 (lm V 1:Nat),.int .u64 (lm V 2:Nat),.int .u64 (lm V 3:Nat),.int .u64 (bits:Nat),.string text,.slice aL 0 cL,.slice aK 0 cK] 35)).alloc (.cells #[.int .i64 2,.bool false,.int .u64 0,.int .u64 0,.int .u64 0,.int .u64 0,.int .u64 q,.string ⟨#[]⟩] 93)):=zb2
 have X:=Lib.hid (show VBx ((w.alloc (.cells #[.int .i64 2,.bool neg,.int .u64 (lm V 0:Nat),.int .u64 (lm V 1:Nat),.int .u64 (lm V 2:Nat),.int .u64 (lm V 3:Nat),.int .u64 (bits:Nat),.string text,.slice aL 0 cL,.slice aK 0 cK] 35)).alloc (.cells #[.int .i64 2,.bool false,.int .u64 0,.int .u64 0,.int .u64 0,.int .u64 0,.int .u64 q,.string ⟨#[]⟩] 93)) w.heap.size 2 neg V bits text aL 0 cL aK 0 cK from ⟨by simp [go_sem]⟩)
 have S:=Lib.hid (show SBx ((w.alloc (.cells #[.int .i64 2,.bool neg,.int .u64 (lm V 0:Nat),.int .u64 (lm V 1:Nat),.int .u64 (lm V 2:Nat),.int .u64 (lm V 3:Nat),.int .u64 (bits:Nat),.string text,.slice aL 0 cL,.slice aK 0 cK] 35)).alloc (.cells #[.int .i64 2,.bool false,.int .u64 0,.int .u64 0,.int .u64 0,.int .u64 0,.int .u64 q,.string ⟨#[]⟩] 93)) (w.heap.size+1) 2 false (0) (0) (0) (0) (q) ⟨#[]⟩ from ⟨by simp [go_sem]⟩)
 generalize ((w.alloc (.cells #[.int .i64 2,.bool neg,.int .u64 (lm V 0:Nat),.int .u64 (lm V 1:Nat),.int .u64 (lm V 2:Nat),.int .u64 (lm V 3:Nat),.int .u64 (bits:Nat),.string text,.slice aL 0 cL,.slice aK 0 cK] 35)).alloc (.cells #[.int .i64 2,.bool false,.int .u64 0,.int .u64 0,.int .u64 0,.int .u64 0,.int .u64 q,.string ⟨#[]⟩] 93))=W at *
 cases d with
 | false=>
  have e:=HR2.out
  rw [Bool.false_and] at e
  subst e
  (obtain ⟨C_,hC⟩:∃ C:World→Prop,C=fun w'=>Below (W).heap.size (W) w':=⟨_,rfl⟩;have HC:=Lib.hid hC;have hne:∀ p:Prop,(∀ w1:World,C_ w1→p)=p:=fun p=>propext ⟨fun h=>h (W) z0i,fun h _ _=>h⟩;clear hC;refine wp_region_quiet_cls (C:=C_) z0a z0a z0d ?_)
  (go_big_quiet_want;refine ⟨.agg #[.int .i64 2,.bool neg,.int .u64 (lm V 0:Nat),.int .u64 (lm V 1:Nat),.int .u64 (lm V 2:Nat),.int .u64 (lm V 3:Nat),.int .u64 (bits:Nat),.string text,.slice aL 0 cL,.slice aK 0 cK],fun w1 hw1=>?_,?_⟩;(rw [HC.out] at hw1;obtain ⟨_,_,_,_,_⟩:=(X.out.below hw1).all;simp [Oper.quietAt,go_sem, *]);refine z7zs1 ?_;go_big_quiet_on)
  (go_big_quiet_want;go_big_quiet_op;refine ⟨.agg #[.int .i64 (2),.bool (neg),.int .u64 (lm (V) 0:Nat),.int .u64 (lm (V) 1:Nat),.int .u64 (lm (V) 2:Nat),.int .u64 (lm (V) 3:Nat),.int .u64 ((bits:Nat)),.string (text)],fun w1 hw1=>?_,?_⟩;(rw [HC.out] at hw1 ⊢;with_reducible refine (VOf_any _ _ _ _ _ _ _ _ _ _ _ _).mono ?_;rintro e w4 ⟨rfl,hb4⟩;exact ⟨rfl,below_trans hw1 hb4⟩);go_big_quiet_on)
  (go_big_quiet_want;refine ⟨.agg #[.int .i64 (2),.bool (false),.int .u64 (0),.int .u64 (0),.int .u64 (0),.int .u64 (0),.int .u64 (q),.string (⟨#[]⟩)],fun w1 hw1=>?_,?_⟩;(rw [HC.out] at hw1;obtain ⟨_,_,_,_,_⟩:=(S.out.below hw1).all;simp [Oper.quietAt,go_sem, *]);refine z7zs1 ?_;go_big_quiet_on)
  exact z7zk3
 | true=>
  have e:=HR2.out
  rw [Bool.true_and] at e
  subst e
  (obtain ⟨C_,hC⟩:∃ C:World→Prop,C=fun w'=>Below (W).heap.size (W) w':=⟨_,rfl⟩;have HC:=Lib.hid hC;have hne:∀ p:Prop,(∀ w1:World,C_ w1→p)=p:=fun p=>propext ⟨fun h=>h (W) z0i,fun h _ _=>h⟩;clear hC;refine wp_region_quiet_cls (C:=C_) z0a z0a z0d ?_)
  (go_big_quiet_want;refine ⟨.agg #[.int .i64 2,.bool neg,.int .u64 (lm V 0:Nat),.int .u64 (lm V 1:Nat),.int .u64 (lm V 2:Nat),.int .u64 (lm V 3:Nat),.int .u64 (bits:Nat),.string text,.slice aL 0 cL,.slice aK 0 cK],fun w1 hw1=>?_,?_⟩;(rw [HC.out] at hw1;obtain ⟨_,_,_,_,_⟩:=(X.out.below hw1).all;simp [Oper.quietAt,go_sem, *]);refine z7zs1 ?_;go_big_quiet_on)
  (go_big_quiet_want;go_big_quiet_op;refine ⟨.agg #[.int .i64 (2),.bool (neg),.int .u64 (lm (V) 0:Nat),.int .u64 (lm (V) 1:Nat),.int .u64 (lm (V) 2:Nat),.int .u64 (lm (V) 3:Nat),.int .u64 ((bits:Nat)),.string (text)],fun w1 hw1=>?_,?_⟩;(rw [HC.out] at hw1 ⊢;with_reducible refine (VOf_any _ _ _ _ _ _ _ _ _ _ _ _).mono ?_;rintro e w4 ⟨rfl,hb4⟩;exact ⟨rfl,below_trans hw1 hb4⟩);go_big_quiet_on)
  (go_big_quiet_want;refine ⟨.agg #[.int .i64 (2),.bool (false),.int .u64 (0),.int .u64 (0),.int .u64 (0),.int .u64 (0),.int .u64 (q),.string (⟨#[]⟩)],fun w1 hw1=>?_,?_⟩;(rw [HC.out] at hw1;obtain ⟨_,_,_,_,_⟩:=(S.out.below hw1).all;simp [Oper.quietAt,go_sem, *]);refine z7zs1 ?_;go_big_quiet_on)
  exact z7zk1
theorem sound_3 (r:Bool) (neg:Bool) (V bits:Nat) (text:ByteArray) (aL:Option Addr) (cL:Nat) (aK:Option Addr) (cK:Nat) (w:World) (R z d:Bool)
  (HR:Hid (R=(r && d && !z))) (hd:eqSc 3 neg (lm V 0:Nat) (lm V 1:Nat) (lm V 2:Nat) (lm V 3:Nat) (bits:Nat) text 3 neg ((lm V 0:Nat)) ((lm V 1:Nat)) ((lm V 2:Nat)) ((lm V 3:Nat)) 0 ⟨#[]⟩=d)
  (C1:Hid (∀ wr:World,Below w.heap.size w wr→Calls Tryd.prog 59 #[.agg #[.bool (neg ),.int .u64 (lm ( V) 0:Nat),.int .u64 (lm ( V) 1:Nat),.int .u64 (lm ( V) 2:Nat),.int .u64 (lm ( V) 3:Nat)]] wr fun e w'=>e=.returned (.bool r)∧Below wr.heap.size wr w'))
  (CC:Hid (∀ wr:World,Below w.heap.size w wr→Calls Tryd.prog 57 #[.slice aL 0 cL,.func (.func 63) #[] #[]] wr fun e w'=>e=.returned (.bool z)∧Below wr.heap.size wr w')) :
  Calls Tryd.prog 38 #[.agg #[.int .i64 3,.bool neg,.int .u64 (lm V 0:Nat),.int .u64 (lm V 1:Nat),.int .u64 (lm V 2:Nat),.int .u64 (lm V 3:Nat),.int .u64 (bits:Nat),.string text,.slice aL 0 cL,.slice aK 0 cK]] w fun e w'=>e=.returned (.bool R)∧Below w.heap.size w w':=by
 cases r with
 | false=>
  have e:R=false:=by rw [HR.out];simp
  subst e
  clear HR
  go_enter Tryd.func38,Tryd.ntmps38
  repeat any_goals (first|(go_at_call 59;refine (C1.out _ zb2).mono ?_;rintro e w1 ⟨rfl,hb1⟩)|go_skip|go_guarded|go_step|go_upon|(dsimp only []))
  exact z7zk5
 | true=>
  have HR2:Hid (R=(d && !z)):=Lib.hid (by rw [HR.out];simp)
  clear HR
  go_enter Tryd.func38,Tryd.ntmps38
  go_upto_region 27 with (go_at_call 59;refine (C1.out _ zb2).mono ?_;rintro e w1 ⟨rfl,hb1⟩)
  have hW:Below w.heap.size w w1:=zb2
  have X:=Lib.hid (show VBx w1 w.heap.size 3 neg V bits text aL 0 cL aK 0 cK from VBx.below (w1:=((w.alloc (.cells #[.int .i64 3,.bool neg,.int .u64 (lm V 0:Nat),.int .u64 (lm V 1:Nat),.int .u64 (lm V 2:Nat),.int .u64 (lm V 3:Nat),.int .u64 (bits:Nat),.string text,.slice aL 0 cL,.slice aK 0 cK] 35)).alloc (.cells #[.int .i64 3,.bool neg,.int .u64 (lm V 0:Nat),.int .u64 (lm V 1:Nat),.int .u64 (lm V 2:Nat),.int .u64 (lm V 3:Nat),.int .u64 0,.string ⟨#[]⟩] 93))) ⟨by simp [go_sem]⟩ (by simpa using hb1))
  have S:=Lib.hid (show SBx w1 (w.heap.size+1) 3 neg ((lm V 0:Nat)) ((lm V 1:Nat)) ((lm V 2:Nat)) ((lm V 3:Nat)) (0) ⟨#[]⟩ from SBx.below (w1:=((w.alloc (.cells #[.int .i64 3,.bool neg,.int .u64 (lm V 0:Nat),.int .u64 (lm V 1:Nat),.int .u64 (lm V 2:Nat),.int .u64 (lm V 3:Nat),.int .u64 (bits:Nat),.string text,.slice aL 0 cL,.slice aK 0 cK] 35)).alloc (.cells #[.int .i64 3,.bool neg,.int .u64 (lm V 0:Nat),.int .u64 (lm V 1:Nat),.int .u64 (lm V 2:Nat),.int .u64 (lm V 3:Nat),.int .u64 0,.string ⟨#[]⟩] 93))) ⟨by simp [go_sem]⟩ (by simpa using hb1))
  clear hb1
  generalize w1=W at *
  cases d with
  | false=>
   have e:=HR2.out
   rw [Bool.false_and] at e
   subst e
   (obtain ⟨C_,hC⟩:∃ C:World→Prop,C=fun w'=>Below (W).heap.size (W) w':=⟨_,rfl⟩;have HC:=Lib.hid hC;have hne:∀ p:Prop,(∀ w1:World,C_ w1→p)=p:=fun p=>propext ⟨fun h=>h (W) z0i,fun h _ _=>h⟩;clear hC;refine wp_region_quiet_cls (C:=C_) z0a z0a z0d ?_)
   (go_big_quiet_want;refine ⟨.agg #[.int .i64 3,.bool neg,.int .u64 (lm V 0:Nat),.int .u64 (lm V 1:Nat),.int .u64 (lm V 2:Nat),.int .u64 (lm V 3:Nat),.int .u64 (bits:Nat),.string text,.slice aL 0 cL,.slice aK 0 cK],fun w1 hw1=>?_,?_⟩;(rw [HC.out] at hw1;obtain ⟨_,_,_,_,_⟩:=(X.out.below hw1).all;simp [Oper.quietAt,go_sem, *]);refine z7zs1 ?_;go_big_quiet_on)
   (go_big_quiet_want;go_big_quiet_op;refine ⟨.agg #[.int .i64 (3),.bool (neg),.int .u64 (lm (V) 0:Nat),.int .u64 (lm (V) 1:Nat),.int .u64 (lm (V) 2:Nat),.int .u64 (lm (V) 3:Nat),.int .u64 ((bits:Nat)),.string (text)],fun w1 hw1=>?_,?_⟩;(rw [HC.out] at hw1 ⊢;with_reducible refine (VOf_any _ _ _ _ _ _ _ _ _ _ _ _).mono ?_;rintro e w4 ⟨rfl,hb4⟩;exact ⟨rfl,below_trans hw1 hb4⟩);go_big_quiet_on)
   (go_big_quiet_want;refine ⟨.agg #[.int .i64 (3),.bool (neg),.int .u64 ((lm V 0:Nat)),.int .u64 ((lm V 1:Nat)),.int .u64 ((lm V 2:Nat)),.int .u64 ((lm V 3:Nat)),.int .u64 (0),.string (⟨#[]⟩)],fun w1 hw1=>?_,?_⟩;(rw [HC.out] at hw1;obtain ⟨_,_,_,_,_⟩:=(S.out.below hw1).all;simp [Oper.quietAt,go_sem, *]);refine z7zs1 ?_;go_big_quiet_on)
   exact z7zk3
  | true=>
   have e:=HR2.out
   rw [Bool.true_and] at e
   subst e
   (obtain ⟨C_,hC⟩:∃ C:World→Prop,C=fun w'=>Below (W).heap.size (W) w':=⟨_,rfl⟩;have HC:=Lib.hid hC;have hne:∀ p:Prop,(∀ w1:World,C_ w1→p)=p:=fun p=>propext ⟨fun h=>h (W) z0i,fun h _ _=>h⟩;clear hC;refine wp_region_quiet_cls (C:=C_) z0a z0a z0d ?_)
   (go_big_quiet_want;refine ⟨.agg #[.int .i64 3,.bool neg,.int .u64 (lm V 0:Nat),.int .u64 (lm V 1:Nat),.int .u64 (lm V 2:Nat),.int .u64 (lm V 3:Nat),.int .u64 (bits:Nat),.string text,.slice aL 0 cL,.slice aK 0 cK],fun w1 hw1=>?_,?_⟩;(rw [HC.out] at hw1;obtain ⟨_,_,_,_,_⟩:=(X.out.below hw1).all;simp [Oper.quietAt,go_sem, *]);refine z7zs1 ?_;go_big_quiet_on)
   (go_big_quiet_want;go_big_quiet_op;refine ⟨.agg #[.int .i64 (3),.bool (neg),.int .u64 (lm (V) 0:Nat),.int .u64 (lm (V) 1:Nat),.int .u64 (lm (V) 2:Nat),.int .u64 (lm (V) 3:Nat),.int .u64 ((bits:Nat)),.string (text)],fun w1 hw1=>?_,?_⟩;(rw [HC.out] at hw1 ⊢;with_reducible refine (VOf_any _ _ _ _ _ _ _ _ _ _ _ _).mono ?_;rintro e w4 ⟨rfl,hb4⟩;exact ⟨rfl,below_trans hw1 hb4⟩);go_big_quiet_on)
   (go_big_quiet_want;refine ⟨.agg #[.int .i64 (3),.bool (neg),.int .u64 ((lm V 0:Nat)),.int .u64 ((lm V 1:Nat)),.int .u64 ((lm V 2:Nat)),.int .u64 ((lm V 3:Nat)),.int .u64 (0),.string (⟨#[]⟩)],fun w1 hw1=>?_,?_⟩;(rw [HC.out] at hw1;obtain ⟨_,_,_,_,_⟩:=(S.out.below hw1).all;simp [Oper.quietAt,go_sem, *]);refine z7zs1 ?_;go_big_quiet_on)
   exact z7zk1
theorem sound_4 (r:Bool) (neg:Bool) (V bits:Nat) (text:ByteArray) (aL:Option Addr) (cL:Nat) (aK:Option Addr) (cK:Nat) (w:World) (R z d:Bool)
  (HR:Hid (R=(r && d && !z))) (hd:eqSc 4 neg (lm V 0:Nat) (lm V 1:Nat) (lm V 2:Nat) (lm V 3:Nat) (bits:Nat) text 4 false 0 0 0 0 ((bits:Nat)) ⟨#[]⟩=d)
  (C1:Hid (∀ wr:World,Below w.heap.size w wr→Calls Tryd.prog 60 #[.int .u64 (bits:Nat)] wr fun e w'=>e=.returned (.bool r)∧Below wr.heap.size wr w'))
  (CC:Hid (∀ wr:World,Below w.heap.size w wr→Calls Tryd.prog 57 #[.slice aL 0 cL,.func (.func 63) #[] #[]] wr fun e w'=>e=.returned (.bool z)∧Below wr.heap.size wr w')) :
  Calls Tryd.prog 38 #[.agg #[.int .i64 4,.bool neg,.int .u64 (lm V 0:Nat),.int .u64 (lm V 1:Nat),.int .u64 (lm V 2:Nat),.int .u64 (lm V 3:Nat),.int .u64 (bits:Nat),.string text,.slice aL 0 cL,.slice aK 0 cK]] w fun e w'=>e=.returned (.bool R)∧Below w.heap.size w w':=by
 cases r with
 | false=>
  have e:R=false:=by rw [HR.out];simp
  subst e
  clear HR
  go_enter Tryd.func38,Tryd.ntmps38
  repeat any_goals (first|(go_at_call 60;refine (C1.out _ zb2).mono ?_;rintro e w1 ⟨rfl,hb1⟩)|go_skip|go_guarded|go_step|go_upon|(dsimp only []))
  exact z7zk5
 | true=>
  have HR2:Hid (R=(d && !z)):=Lib.hid (by rw [HR.out];simp)
  clear HR
  go_enter Tryd.func38,Tryd.ntmps38
  go_upto_region 27 with (go_at_call 60;refine (C1.out _ zb2).mono ?_;rintro e w1 ⟨rfl,hb1⟩)
  have hW:Below w.heap.size w w1:=zb2
  have X:=Lib.hid (show VBx w1 w.heap.size 4 neg V bits text aL 0 cL aK 0 cK from VBx.below (w1:=((w.alloc (.cells #[.int .i64 4,.bool neg,.int .u64 (lm V 0:Nat),.int .u64 (lm V 1:Nat),.int .u64 (lm V 2:Nat),.int .u64 (lm V 3:Nat),.int .u64 (bits:Nat),.string text,.slice aL 0 cL,.slice aK 0 cK] 35)).alloc (.cells #[.int .i64 4,.bool false,.int .u64 0,.int .u64 0,.int .u64 0,.int .u64 0,.int .u64 (bits:Nat),.string ⟨#[]⟩] 93))) ⟨by simp [go_sem]⟩ (by simpa using hb1))
  have S:=Lib.hid (show SBx w1 (w.heap.size+1) 4 false (0) (0) (0) (0) ((bits:Nat)) ⟨#[]⟩ from SBx.below (w1:=((w.alloc (.cells #[.int .i64 4,.bool neg,.int .u64 (lm V 0:Nat),.int .u64 (lm V 1:Nat),.int .u64 (lm V 2:Nat),.int .u64 (lm V 3:Nat),.int .u64 (bits:Nat),.string text,.slice aL 0 cL,.slice aK 0 cK] 35)).alloc (.cells #[.int .i64 4,.bool false,.int .u64 0,.int .u64 0,.int .u64 0,.int .u64 0,.int .u64 (bits:Nat),.string ⟨#[]⟩] 93))) ⟨by simp [go_sem]⟩ (by simpa using hb1))
  clear hb1
  generalize w1=W at *
  cases d with
  | false=>
   have e:=HR2.out
   rw [Bool.false_and] at e
   subst e
   (obtain ⟨C_,hC⟩:∃ C:World→Prop,C=fun w'=>Below (W).heap.size (W) w':=⟨_,rfl⟩;have HC:=Lib.hid hC;have hne:∀ p:Prop,(∀ w1:World,C_ w1→p)=p:=fun p=>propext ⟨fun h=>h (W) z0i,fun h _ _=>h⟩;clear hC;refine wp_region_quiet_cls (C:=C_) z0a z0a z0d ?_)
   (go_big_quiet_want;refine ⟨.agg #[.int .i64 4,.bool neg,.int .u64 (lm V 0:Nat),.int .u64 (lm V 1:Nat),.int .u64 (lm V 2:Nat),.int .u64 (lm V 3:Nat),.int .u64 (bits:Nat),.string text,.slice aL 0 cL,.slice aK 0 cK],fun w1 hw1=>?_,?_⟩;(rw [HC.out] at hw1;obtain ⟨_,_,_,_,_⟩:=(X.out.below hw1).all;simp [Oper.quietAt,go_sem, *]);refine z7zs1 ?_;go_big_quiet_on)
   (go_big_quiet_want;go_big_quiet_op;refine ⟨.agg #[.int .i64 (4),.bool (neg),.int .u64 (lm (V) 0:Nat),.int .u64 (lm (V) 1:Nat),.int .u64 (lm (V) 2:Nat),.int .u64 (lm (V) 3:Nat),.int .u64 ((bits:Nat)),.string (text)],fun w1 hw1=>?_,?_⟩;(rw [HC.out] at hw1 ⊢;with_reducible refine (VOf_any _ _ _ _ _ _ _ _ _ _ _ _).mono ?_;rintro e w4 ⟨rfl,hb4⟩;exact ⟨rfl,below_trans hw1 hb4⟩);go_big_quiet_on)
   (go_big_quiet_want;refine ⟨.agg #[.int .i64 (4),.bool (false),.int .u64 (0),.int .u64 (0),.int .u64 (0),.int .u64 (0),.int .u64 ((bits:Nat)),.string (⟨#[]⟩)],fun w1 hw1=>?_,?_⟩;(rw [HC.out] at hw1;obtain ⟨_,_,_,_,_⟩:=(S.out.below hw1).all;simp [Oper.quietAt,go_sem, *]);refine z7zs1 ?_;go_big_quiet_on)
   exact z7zk3
  | true=>
   have e:=HR2.out
   rw [Bool.true_and] at e
   subst e
   (obtain ⟨C_,hC⟩:∃ C:World→Prop,C=fun w'=>Below (W).heap.size (W) w':=⟨_,rfl⟩;have HC:=Lib.hid hC;have hne:∀ p:Prop,(∀ w1:World,C_ w1→p)=p:=fun p=>propext ⟨fun h=>h (W) z0i,fun h _ _=>h⟩;clear hC;refine wp_region_quiet_cls (C:=C_) z0a z0a z0d ?_)
   (go_big_quiet_want;refine ⟨.agg #[.int .i64 4,.bool neg,.int .u64 (lm V 0:Nat),.int .u64 (lm V 1:Nat),.int .u64 (lm V 2:Nat),.int .u64 (lm V 3:Nat),.int .u64 (bits:Nat),.string text,.slice aL 0 cL,.slice aK 0 cK],fun w1 hw1=>?_,?_⟩;(rw [HC.out] at hw1;obtain ⟨_,_,_,_,_⟩:=(X.out.below hw1).all;simp [Oper.quietAt,go_sem, *]);refine z7zs1 ?_;go_big_quiet_on)
   (go_big_quiet_want;go_big_quiet_op;refine ⟨.agg #[.int .i64 (4),.bool (neg),.int .u64 (lm (V) 0:Nat),.int .u64 (lm (V) 1:Nat),.int .u64 (lm (V) 2:Nat),.int .u64 (lm (V) 3:Nat),.int .u64 ((bits:Nat)),.string (text)],fun w1 hw1=>?_,?_⟩;(rw [HC.out] at hw1 ⊢;with_reducible refine (VOf_any _ _ _ _ _ _ _ _ _ _ _ _).mono ?_;rintro e w4 ⟨rfl,hb4⟩;exact ⟨rfl,below_trans hw1 hb4⟩);go_big_quiet_on)
   (go_big_quiet_want;refine ⟨.agg #[.int .i64 (4),.bool (false),.int .u64 (0),.int .u64 (0),.int .u64 (0),.int .u64 (0),.int .u64 ((bits:Nat)),.string (⟨#[]⟩)],fun w1 hw1=>?_,?_⟩;(rw [HC.out] at hw1;obtain ⟨_,_,_,_,_⟩:=(S.out.below hw1).all;simp [Oper.quietAt,go_sem, *]);refine z7zs1 ?_;go_big_quiet_on)
   exact z7zk1
theorem sound_5 (r:Bool) (neg:Bool) (V bits:Nat) (text:ByteArray) (aL:Option Addr) (cL:Nat) (aK:Option Addr) (cK:Nat) (w:World) (R z d:Bool)
  (HR:Hid (R=(r && d && !z))) (hd:eqSc 5 neg (lm V 0:Nat) (lm V 1:Nat) (lm V 2:Nat) (lm V 3:Nat) (bits:Nat) text 5 false 0 0 0 0 0 text=d)
  (C1:Hid (∀ wr:World,Below w.heap.size w wr→Calls Tryd.prog 61 #[.string text] wr fun e w'=>e=.returned (.bool r)∧Below wr.heap.size wr w'))
  (CC:Hid (∀ wr:World,Below w.heap.size w wr→Calls Tryd.prog 57 #[.slice aL 0 cL,.func (.func 63) #[] #[]] wr fun e w'=>e=.returned (.bool z)∧Below wr.heap.size wr w')) :
  Calls Tryd.prog 38 #[.agg #[.int .i64 5,.bool neg,.int .u64 (lm V 0:Nat),.int .u64 (lm V 1:Nat),.int .u64 (lm V 2:Nat),.int .u64 (lm V 3:Nat),.int .u64 (bits:Nat),.string text,.slice aL 0 cL,.slice aK 0 cK]] w fun e w'=>e=.returned (.bool R)∧Below w.heap.size w w':=by
 cases r with
 | false=>
  have e:R=false:=by rw [HR.out];simp
  subst e
  clear HR
  go_enter Tryd.func38,Tryd.ntmps38
  repeat any_goals (first|(go_at_call 61;refine (C1.out _ zb2).mono ?_;rintro e w1 ⟨rfl,hb1⟩)|go_skip|go_guarded|go_step|go_upon|(dsimp only []))
  exact z7zk5
 | true=>
  have HR2:Hid (R=(d && !z)):=Lib.hid (by rw [HR.out];simp)
  clear HR
  go_enter Tryd.func38,Tryd.ntmps38
  go_upto_region 27 with (go_at_call 61;refine (C1.out _ zb2).mono ?_;rintro e w1 ⟨rfl,hb1⟩)
  have hW:Below w.heap.size w w1:=zb2
  have X:=Lib.hid (show VBx w1 w.heap.size 5 neg V bits text aL 0 cL aK 0 cK from VBx.below (w1:=((w.alloc (.cells #[.int .i64 5,.bool neg,.int .u64 (lm V 0:Nat),.int .u64 (lm V 1:Nat),.int .u64 (lm V 2:Nat),.int .u64 (lm V 3:Nat),.int .u64 (bits:Nat),.string text,.slice aL 0 cL,.slice aK 0 cK] 35)).alloc (.cells #[.int .i64 5,.bool false,.int .u64 0,.int .u64 0,.int .u64 0,.int .u64 0,.int .u64 0,.string text] 93))) ⟨by simp [go_sem]⟩ (by simpa using hb1))
  have S:=Lib.hid (show SBx w1 (w.heap.size+1) 5 false (0) (0) (0) (0) (0) text from SBx.below (w1:=((w.alloc (.cells #[.int .i64 5,.bool neg,.int .u64 (lm V 0:Nat),.int .u64 (lm V 1:Nat),.int .u64 (lm V 2:Nat),.int .u64 (lm V 3:Nat),.int .u64 (bits:Nat),.string text,.slice aL 0 cL,.slice aK 0 cK] 35)).alloc (.cells #[.int .i64 5,.bool false,.int .u64 0,.int .u64 0,.int .u64 0,.int .u64 0,.int .u64 0,.string text] 93))) ⟨by simp [go_sem]⟩ (by simpa using hb1))
  clear hb1
  generalize w1=W at *
  cases d with
  | false=>
   have e:=HR2.out
   rw [Bool.false_and] at e
   subst e
   (obtain ⟨C_,hC⟩:∃ C:World→Prop,C=fun w'=>Below (W).heap.size (W) w':=⟨_,rfl⟩;have HC:=Lib.hid hC;have hne:∀ p:Prop,(∀ w1:World,C_ w1→p)=p:=fun p=>propext ⟨fun h=>h (W) z0i,fun h _ _=>h⟩;clear hC;refine wp_region_quiet_cls (C:=C_) z0a z0a z0d ?_)
   (go_big_quiet_want;refine ⟨.agg #[.int .i64 5,.bool neg,.int .u64 (lm V 0:Nat),.int .u64 (lm V 1:Nat),.int .u64 (lm V 2:Nat),.int .u64 (lm V 3:Nat),.int .u64 (bits:Nat),.string text,.slice aL 0 cL,.slice aK 0 cK],fun w1 hw1=>?_,?_⟩;(rw [HC.out] at hw1;obtain ⟨_,_,_,_,_⟩:=(X.out.below hw1).all;simp [Oper.quietAt,go_sem, *]);refine z7zs1 ?_;go_big_quiet_on)
   (go_big_quiet_want;go_big_quiet_op;refine ⟨.agg #[.int .i64 (5),.bool (neg),.int .u64 (lm (V) 0:Nat),.int .u64 (lm (V) 1:Nat),.int .u64 (lm (V) 2:Nat),.int .u64 (lm (V) 3:Nat),.int .u64 ((bits:Nat)),.string (text)],fun w1 hw1=>?_,?_⟩;(rw [HC.out] at hw1 ⊢;with_reducible refine (VOf_any _ _ _ _ _ _ _ _ _ _ _ _).mono ?_;rintro e w4 ⟨rfl,hb4⟩;exact ⟨rfl,below_trans hw1 hb4⟩);go_big_quiet_on)
   (go_big_quiet_want;refine ⟨.agg #[.int .i64 (5),.bool (false),.int .u64 (0),.int .u64 (0),.int .u64 (0),.int .u64 (0),.int .u64 (0),.string (text)],fun w1 hw1=>?_,?_⟩;(rw [HC.out] at hw1;obtain ⟨_,_,_,_,_⟩:=(S.out.below hw1).all;simp [Oper.quietAt,go_sem, *]);refine z7zs1 ?_;go_big_quiet_on)
   exact z7zk3
  | true=>
   have e:=HR2.out
   rw [Bool.true_and] at e
   subst e
   (obtain ⟨C_,hC⟩:∃ C:World→Prop,C=fun w'=>Below (W).heap.size (W) w':=⟨_,rfl⟩;have HC:=Lib.hid hC;have hne:∀ p:Prop,(∀ w1:World,C_ w1→p)=p:=fun p=>propext ⟨fun h=>h (W) z0i,fun h _ _=>h⟩;clear hC;refine wp_region_quiet_cls (C:=C_) z0a z0a z0d ?_)
   (go_big_quiet_want;refine ⟨.agg #[.int .i64 5,.bool neg,.int .u64 (lm V 0:Nat),.int .u64 (lm V 1:Nat),.int .u64 (lm V 2:Nat),.int .u64 (lm V 3:Nat),.int .u64 (bits:Nat),.string text,.slice aL 0 cL,.slice aK 0 cK],fun w1 hw1=>?_,?_⟩;(rw [HC.out] at hw1;obtain ⟨_,_,_,_,_⟩:=(X.out.below hw1).all;simp [Oper.quietAt,go_sem, *]);refine z7zs1 ?_;go_big_quiet_on)
   (go_big_quiet_want;go_big_quiet_op;refine ⟨.agg #[.int .i64 (5),.bool (neg),.int .u64 (lm (V) 0:Nat),.int .u64 (lm (V) 1:Nat),.int .u64 (lm (V) 2:Nat),.int .u64 (lm (V) 3:Nat),.int .u64 ((bits:Nat)),.string (text)],fun w1 hw1=>?_,?_⟩;(rw [HC.out] at hw1 ⊢;with_reducible refine (VOf_any _ _ _ _ _ _ _ _ _ _ _ _).mono ?_;rintro e w4 ⟨rfl,hb4⟩;exact ⟨rfl,below_trans hw1 hb4⟩);go_big_quiet_on)
   (go_big_quiet_want;refine ⟨.agg #[.int .i64 (5),.bool (false),.int .u64 (0),.int .u64 (0),.int .u64 (0),.int .u64 (0),.int .u64 (0),.string (text)],fun w1 hw1=>?_,?_⟩;(rw [HC.out] at hw1;obtain ⟨_,_,_,_,_⟩:=(S.out.below hw1).all;simp [Oper.quietAt,go_sem, *]);refine z7zs1 ?_;go_big_quiet_on)
   exact z7zk1
theorem sound_6 (neg:Bool) (V bits:Nat) (text:ByteArray) (aL:Option Addr) (cL:Nat) (aK:Option Addr) (cK:Nat) (w:World) (R z d:Bool)
  (HR2:Hid (R=(d && !z))) (hd:eqSc 6 neg (lm V 0:Nat) (lm V 1:Nat) (lm V 2:Nat) (lm V 3:Nat) (bits:Nat) text 6 false 0 0 0 0 0 text=d)
  (CC:Hid (∀ wr:World,Below w.heap.size w wr→Calls Tryd.prog 57 #[.slice aL 0 cL,.func (.func 63) #[] #[]] wr fun e w'=>e=.returned (.bool z)∧Below wr.heap.size wr w')) :
  Calls Tryd.prog 38 #[.agg #[.int .i64 6,.bool neg,.int .u64 (lm V 0:Nat),.int .u64 (lm V 1:Nat),.int .u64 (lm V 2:Nat),.int .u64 (lm V 3:Nat),.int .u64 (bits:Nat),.string text,.slice aL 0 cL,.slice aK 0 cK]] w fun e w'=>e=.returned (.bool R)∧Below w.heap.size w w':=by
 go_enter Tryd.func38,Tryd.ntmps38
 go_upto_region 27 with fail
 have hW:Below w.heap.size w ((w.alloc (.cells #[.int .i64 6,.bool neg,.int .u64 (lm V 0:Nat),.int .u64 (lm V 1:Nat),.int .u64 (lm V 2:Nat),.int .u64 (lm V 3:Nat),.int .u64 (bits:Nat),.string text,.slice aL 0 cL,.slice aK 0 cK] 35)).alloc (.cells #[.int .i64 6,.bool false,.int .u64 0,.int .u64 0,.int .u64 0,.int .u64 0,.int .u64 0,.string text] 93)):=zb2
 have X:=Lib.hid (show VBx ((w.alloc (.cells #[.int .i64 6,.bool neg,.int .u64 (lm V 0:Nat),.int .u64 (lm V 1:Nat),.int .u64 (lm V 2:Nat),.int .u64 (lm V 3:Nat),.int .u64 (bits:Nat),.string text,.slice aL 0 cL,.slice aK 0 cK] 35)).alloc (.cells #[.int .i64 6,.bool false,.int .u64 0,.int .u64 0,.int .u64 0,.int .u64 0,.int .u64 0,.string text] 93)) w.heap.size 6 neg V bits text aL 0 cL aK 0 cK from ⟨by simp [go_sem]⟩)
 have S:=Lib.hid (show SBx ((w.alloc (.cells #[.int .i64 6,.bool neg,.int .u64 (lm V 0:Nat),.int .u64 (lm V 1:Nat),.int .u64 (lm V 2:Nat),.int .u64 (lm V 3:Nat),.int .u64 (bits:Nat),.string text,.slice aL 0 cL,.slice aK 0 cK] 35)).alloc (.cells #[.int .i64 6,.bool false,.int .u64 0,.int .u64 0,.int .u64 0,.int .u64 0,.int .u64 0,.string text] 93)) (w.heap.size+1) 6 false (0) (0) (0) (0) (0) text from ⟨by simp [go_sem]⟩)
 generalize ((w.alloc (.cells #[.int .i64 6,.bool neg,.int .u64 (lm V 0:Nat),.int .u64 (lm V 1:Nat),.int .u64 (lm V 2:Nat),.int .u64 (lm V 3:Nat),.int .u64 (bits:Nat),.string text,.slice aL 0 cL,.slice aK 0 cK] 35)).alloc (.cells #[.int .i64 6,.bool false,.int .u64 0,.int .u64 0,.int .u64 0,.int .u64 0,.int .u64 0,.string text] 93))=W at *
 cases d with
 | false=>
  have e:=HR2.out
  rw [Bool.false_and] at e
  subst e
  (obtain ⟨C_,hC⟩:∃ C:World→Prop,C=fun w'=>Below (W).heap.size (W) w':=⟨_,rfl⟩;have HC:=Lib.hid hC;have hne:∀ p:Prop,(∀ w1:World,C_ w1→p)=p:=fun p=>propext ⟨fun h=>h (W) z0i,fun h _ _=>h⟩;clear hC;refine wp_region_quiet_cls (C:=C_) z0a z0a z0d ?_)
  (go_big_quiet_want;refine ⟨.agg #[.int .i64 6,.bool neg,.int .u64 (lm V 0:Nat),.int .u64 (lm V 1:Nat),.int .u64 (lm V 2:Nat),.int .u64 (lm V 3:Nat),.int .u64 (bits:Nat),.string text,.slice aL 0 cL,.slice aK 0 cK],fun w1 hw1=>?_,?_⟩;(rw [HC.out] at hw1;obtain ⟨_,_,_,_,_⟩:=(X.out.below hw1).all;simp [Oper.quietAt,go_sem, *]);refine z7zs1 ?_;go_big_quiet_on)
  (go_big_quiet_want;go_big_quiet_op;refine ⟨.agg #[.int .i64 (6),.bool (neg),.int .u64 (lm (V) 0:Nat),.int .u64 (lm (V) 1:Nat),.int .u64 (lm (V) 2:Nat),.int .u64 (lm (V) 3:Nat),.int .u64 ((bits:Nat)),.string (text)],fun w1 hw1=>?_,?_⟩;(rw [HC.out] at hw1 ⊢;with_reducible refine (VOf_any _ _ _ _ _ _ _ _ _ _ _ _).mono ?_;rintro e w4 ⟨rfl,hb4⟩;exact ⟨rfl,below_trans hw1 hb4⟩);go_big_quiet_on)
  (go_big_quiet_want;refine ⟨.agg #[.int .i64 (6),.bool (false),.int .u64 (0),.int .u64 (0),.int .u64 (0),.int .u64 (0),.int .u64 (0),.string (text)],fun w1 hw1=>?_,?_⟩;(rw [HC.out] at hw1;obtain ⟨_,_,_,_,_⟩:=(S.out.below hw1).all;simp [Oper.quietAt,go_sem, *]);refine z7zs1 ?_;go_big_quiet_on)
  exact z7zk3
 | true=>
  have e:=HR2.out
  rw [Bool.true_and] at e
  subst e
  (obtain ⟨C_,hC⟩:∃ C:World→Prop,C=fun w'=>Below (W).heap.size (W) w':=⟨_,rfl⟩;have HC:=Lib.hid hC;have hne:∀ p:Prop,(∀ w1:World,C_ w1→p)=p:=fun p=>propext ⟨fun h=>h (W) z0i,fun h _ _=>h⟩;clear hC;refine wp_region_quiet_cls (C:=C_) z0a z0a z0d ?_)
  (go_big_quiet_want;refine ⟨.agg #[.int .i64 6,.bool neg,.int .u64 (lm V 0:Nat),.int .u64 (lm V 1:Nat),.int .u64 (lm V 2:Nat),.int .u64 (lm V 3:Nat),.int .u64 (bits:Nat),.string text,.slice aL 0 cL,.slice aK 0 cK],fun w1 hw1=>?_,?_⟩;(rw [HC.out] at hw1;obtain ⟨_,_,_,_,_⟩:=(X.out.below hw1).all;simp [Oper.quietAt,go_sem, *]);refine z7zs1 ?_;go_big_quiet_on)
  (go_big_quiet_want;go_big_quiet_op;refine ⟨.agg #[.int .i64 (6),.bool (neg),.int .u64 (lm (V) 0:Nat),.int .u64 (lm (V) 1:Nat),.int .u64 (lm (V) 2:Nat),.int .u64 (lm (V) 3:Nat),.int .u64 ((bits:Nat)),.string (text)],fun w1 hw1=>?_,?_⟩;(rw [HC.out] at hw1 ⊢;with_reducible refine (VOf_any _ _ _ _ _ _ _ _ _ _ _ _).mono ?_;rintro e w4 ⟨rfl,hb4⟩;exact ⟨rfl,below_trans hw1 hb4⟩);go_big_quiet_on)
  (go_big_quiet_want;refine ⟨.agg #[.int .i64 (6),.bool (false),.int .u64 (0),.int .u64 (0),.int .u64 (0),.int .u64 (0),.int .u64 (0),.string (text)],fun w1 hw1=>?_,?_⟩;(rw [HC.out] at hw1;obtain ⟨_,_,_,_,_⟩:=(S.out.below hw1).all;simp [Oper.quietAt,go_sem, *]);refine z7zs1 ?_;go_big_quiet_on)
  exact z7zk1
end Go.Proofs.YtfondldmmcmloaaDoor
