/- PQ, QE, VSelf, NrA, NrL, NrD, NrF. -/
import Derived.Test.YtfondldmmcmloaaGreatDoorPb31
import Derived.Test.YtfondldmmcmloaaGreatDoorPbA4
set_option maxRecDepth 1000000
set_option maxHeartbeats 8000000
namespace Go.Proofs.YtfondldmmcmloaaGreatDoor
open Go Go.RowKit
theorem za5zk1 {p:Prop} (h:p:=by
 go_enter Tryz.func41,Tryz.ntmps41
 repeat any_goals (first|go_skip|go_guarded|go_step|go_upon|(simp only [];done))
 exact bodyPost_ret (v:=.bool false) z0c1 rfl ⟨rfl,zb2⟩):p:=h
theorem za5zk2 {p:Prop} (h:p:=by
 go_enter Tryz.func41,Tryz.ntmps41
 repeat any_goals (first|go_skip|go_guarded|go_step|go_upon|(simp only [];done))
 exact bodyPost_ret (v:=.bool true) z0c1 rfl ⟨rfl,zb2⟩):p:=h
end Go.Proofs.YtfondldmmcmloaaGreatDoor
namespace Go.Proofs.YtfondldmmcmloaaGreatDoor
open Go.RowKit
def noughtB (kind:Int) (neg:Bool) (V bits:Nat) (text:ByteArray):Bool:=(decide (kind=3) && (!neg && V == 0)) || (decide (kind=2) && decide (bits=0)) || ((decide (kind=5) || decide (kind=6)) && decide (text=⟨#[]⟩))
theorem RZero_3 (neg:Bool) (V bits:Nat) (text:ByteArray) (aL:Option Addr) (nL cL:Nat) (aK:Option Addr) (nK cK:Nat) (w:World) (R:Bool) (hz:eqI neg false (lm V 0:Nat) (lm V 1:Nat) (lm V 2:Nat) (lm V 3:Nat) 0 0 0 0=R) :
  Calls Tryz.prog 41 #[.agg #[.int .i64 3,.bool neg,.int .u64 (lm V 0:Nat),.int .u64 (lm V 1:Nat),.int .u64 (lm V 2:Nat),.int .u64 (lm V 3:Nat),.int .u64 (bits:Nat),.string text,.slice aL nL cL,.slice aK nK cK]] w fun e w'=>e=.returned (.bool R)∧Below w.heap.size w w':=by
 cases R with
 | true=>
  exact za5zk2
 | false=>
  exact za5zk1
theorem RZero_2 (neg:Bool) (V bits:Nat) (text:ByteArray) (aL:Option Addr) (nL cL:Nat) (aK:Option Addr) (nK cK:Nat) (w:World) (R:Bool) (hz:R=decide (bits=0)) :
  Calls Tryz.prog 41 #[.agg #[.int .i64 2,.bool neg,.int .u64 (lm V 0:Nat),.int .u64 (lm V 1:Nat),.int .u64 (lm V 2:Nat),.int .u64 (lm V 3:Nat),.int .u64 (bits:Nat),.string text,.slice aL nL cL,.slice aK nK cK]] w fun e w'=>e=.returned (.bool R)∧Below w.heap.size w w':=by
 by_cases c:bits=0
 ·obtain rfl:R=true:=by rw [hz,decide_eq_true c]
  subst c
  clear hz
  exact za5zk2
 ·obtain rfl:R=false:=by rw [hz,decide_eq_false c]
  have c1:((bits:Int) == 0)=false:=by simpa using c
  clear hz
  exact za5zk1
theorem RZero_5 (neg:Bool) (V bits:Nat) (text:ByteArray) (aL:Option Addr) (nL cL:Nat) (aK:Option Addr) (nK cK:Nat) (w:World) (R:Bool) (hz:R=decide (text=⟨#[]⟩)) :
  Calls Tryz.prog 41 #[.agg #[.int .i64 5,.bool neg,.int .u64 (lm V 0:Nat),.int .u64 (lm V 1:Nat),.int .u64 (lm V 2:Nat),.int .u64 (lm V 3:Nat),.int .u64 (bits:Nat),.string text,.slice aL nL cL,.slice aK nK cK]] w fun e w'=>e=.returned (.bool R)∧Below w.heap.size w w':=by
 by_cases c:text=⟨#[]⟩
 ·obtain rfl:R=true:=by rw [hz,decide_eq_true c]
  subst c
  clear hz
  exact za5zk2
 ·obtain rfl:R=false:=by rw [hz,decide_eq_false c]
  have c1:(text.toList == [])=false:=beq_false_of_ne fun h=>c (toList_nil h)
  have c2:¬ text=⟨#[]⟩:=c
  clear hz c
  exact za5zk1
theorem RZero_6 (neg:Bool) (V bits:Nat) (text:ByteArray) (aL:Option Addr) (nL cL:Nat) (aK:Option Addr) (nK cK:Nat) (w:World) (R:Bool) (hz:R=decide (text=⟨#[]⟩)) :
  Calls Tryz.prog 41 #[.agg #[.int .i64 6,.bool neg,.int .u64 (lm V 0:Nat),.int .u64 (lm V 1:Nat),.int .u64 (lm V 2:Nat),.int .u64 (lm V 3:Nat),.int .u64 (bits:Nat),.string text,.slice aL nL cL,.slice aK nK cK]] w fun e w'=>e=.returned (.bool R)∧Below w.heap.size w w':=by
 by_cases c:text=⟨#[]⟩
 ·obtain rfl:R=true:=by rw [hz,decide_eq_true c]
  subst c
  clear hz
  exact za5zk2
 ·obtain rfl:R=false:=by rw [hz,decide_eq_false c]
  have c1:(text.toList == [])=false:=beq_false_of_ne fun h=>c (toList_nil h)
  have c2:¬ text=⟨#[]⟩:=c
  clear hz c
  exact za5zk1
theorem RZero_o (kind:Int) (neg:Bool) (V bits:Nat) (text:ByteArray) (aL:Option Addr) (nL cL:Nat) (aK:Option Addr) (nK cK:Nat) (w:World) (h3:(kind == 3)=false) (h2:(kind == 2)=false) (h5:(kind == 5)=false) (h6:(kind == 6)=false) :
  Calls Tryz.prog 41 #[.agg #[.int .i64 kind,.bool neg,.int .u64 (lm V 0:Nat),.int .u64 (lm V 1:Nat),.int .u64 (lm V 2:Nat),.int .u64 (lm V 3:Nat),.int .u64 (bits:Nat),.string text,.slice aL nL cL,.slice aK nK cK]] w fun e w'=>e=.returned (.bool false)∧Below w.heap.size w w':=by
 exact za5zk1
theorem RZero_any (kind:Int) (neg:Bool) (V bits:Nat) (text:ByteArray) (aL:Option Addr) (nL cL:Nat) (aK:Option Addr) (nK cK:Nat) (hV:V < 2 ^ 256) (w:World) :
  Calls Tryz.prog 41 #[.agg #[.int .i64 kind,.bool neg,.int .u64 (lm V 0:Nat),.int .u64 (lm V 1:Nat),.int .u64 (lm V 2:Nat),.int .u64 (lm V 3:Nat),.int .u64 (bits:Nat),.string text,.slice aL nL cL,.slice aK nK cK]] w fun e w'=>e=.returned (.bool (noughtB kind neg V bits text))∧Below w.heap.size w w':=by
 by_cases h3:kind=3
 ·subst h3
  exact RZero_3 neg V bits text aL nL cL aK nK cK w _ (by rw [eqI_zero hV];simp [noughtB])
 by_cases h2:kind=2
 ·subst h2
  exact RZero_2 neg V bits text aL nL cL aK nK cK w _ (by simp [noughtB])
 by_cases h5:kind=5
 ·subst h5
  exact RZero_5 neg V bits text aL nL cL aK nK cK w _ (by simp [noughtB])
 by_cases h6:kind=6
 ·subst h6
  exact RZero_6 neg V bits text aL nL cL aK nK cK w _ (by simp [noughtB])
 have e:noughtB kind neg V bits text=false:=by simp [noughtB,h3,h2,h5,h6]
 rw [e]
 exact RZero_o kind neg V bits text aL nL cL aK nK cK w (beq_false_of_ne h3) (beq_false_of_ne h2) (beq_false_of_ne h5) (beq_false_of_ne h6)
theorem RNorm_no (a:Option Addr) (n c:Nat) (kind:Int) (neg:Bool) (V bits:Nat) (text:ByteArray) (aL:Option Addr) (nL cL:Nat) (aK:Option Addr) (nK cK:Nat) (w:World)
  (C1:Hid (∀ wr:World,Below w.heap.size w wr→Calls Tryz.prog 12 #[.slice a n c,.agg #[.int .i64 kind,.bool neg,.int .u64 (lm V 0:Nat),.int .u64 (lm V 1:Nat),.int .u64 (lm V 2:Nat),.int .u64 (lm V 3:Nat),.int .u64 (bits:Nat),.string text,.slice aL nL cL,.slice aK nK cK]] wr fun e w'=>e=.returned (.bool false)∧Below wr.heap.size wr w')) :
  Calls Tryz.prog 10 #[.slice a n c,.agg #[.int .i64 kind,.bool neg,.int .u64 (lm V 0:Nat),.int .u64 (lm V 1:Nat),.int .u64 (lm V 2:Nat),.int .u64 (lm V 3:Nat),.int .u64 (bits:Nat),.string text,.slice aL nL cL,.slice aK nK cK]] w fun e w'=>e=.returned (.tuple #[.agg #[.int .i64 0,.bool false,.int .u64 0,.int .u64 0,.int .u64 0,.int .u64 0,.int .u64 0,.string ⟨#[]⟩,.slice none 0 0,.slice none 0 0],.bool false])∧Below w.heap.size w w':=by
 go_enter Tryz.func10,Tryz.ntmps10
 go_upto_region 1 with fail
 have hW:Below w.heap.size w ((w.alloc (.cells #[.int .i64 kind,.bool neg,.int .u64 (lm V 0:Nat),.int .u64 (lm V 1:Nat),.int .u64 (lm V 2:Nat),.int .u64 (lm V 3:Nat),.int .u64 (bits:Nat),.string text,.slice aL nL cL,.slice aK nK cK] 31)).alloc (.cells #[.int .i64 0,.bool false,.int .u64 0,.int .u64 0,.int .u64 0,.int .u64 0,.int .u64 0,.string ⟨#[]⟩,.slice none 0 0,.slice none 0 0] 31)):=zb2
 have X:=Lib.hid ((vbx_new w 31 kind neg V bits text aL nL cL aK nK cK).below (show Below (w.alloc (.cells #[.int .i64 kind,.bool neg,.int .u64 (lm V 0:Nat),.int .u64 (lm V 1:Nat),.int .u64 (lm V 2:Nat),.int .u64 (lm V 3:Nat),.int .u64 (bits:Nat),.string text,.slice aL nL cL,.slice aK nK cK] 31)).heap.size (w.alloc (.cells #[.int .i64 kind,.bool neg,.int .u64 (lm V 0:Nat),.int .u64 (lm V 1:Nat),.int .u64 (lm V 2:Nat),.int .u64 (lm V 3:Nat),.int .u64 (bits:Nat),.string text,.slice aL nL cL,.slice aK nK cK] 31)) ((w.alloc (.cells #[.int .i64 kind,.bool neg,.int .u64 (lm V 0:Nat),.int .u64 (lm V 1:Nat),.int .u64 (lm V 2:Nat),.int .u64 (lm V 3:Nat),.int .u64 (bits:Nat),.string text,.slice aL nL cL,.slice aK nK cK] 31)).alloc (.cells #[.int .i64 0,.bool false,.int .u64 0,.int .u64 0,.int .u64 0,.int .u64 0,.int .u64 0,.string ⟨#[]⟩,.slice none 0 0,.slice none 0 0] 31)) from zb2))
 have Y:=Lib.hid (show RBx ((w.alloc (.cells #[.int .i64 kind,.bool neg,.int .u64 (lm V 0:Nat),.int .u64 (lm V 1:Nat),.int .u64 (lm V 2:Nat),.int .u64 (lm V 3:Nat),.int .u64 (bits:Nat),.string text,.slice aL nL cL,.slice aK nK cK] 31)).alloc (.cells #[.int .i64 0,.bool false,.int .u64 0,.int .u64 0,.int .u64 0,.int .u64 0,.int .u64 0,.string ⟨#[]⟩,.slice none 0 0,.slice none 0 0] 31)) (w.heap.size+1) (.int .i64 0) (.bool false) (.int .u64 0) (.int .u64 0) (.int .u64 0) (.int .u64 0) (.int .u64 0) (.string ⟨#[]⟩) (.slice none 0 0) (.slice none 0 0) from ⟨by simp [go_sem]⟩)
 have hf:∀ j,((w.alloc (.cells #[.int .i64 kind,.bool neg,.int .u64 (lm V 0:Nat),.int .u64 (lm V 1:Nat),.int .u64 (lm V 2:Nat),.int .u64 (lm V 3:Nat),.int .u64 (bits:Nat),.string text,.slice aL nL cL,.slice aK nK cK] 31)).alloc (.cells #[.int .i64 0,.bool false,.int .u64 0,.int .u64 0,.int .u64 0,.int .u64 0,.int .u64 0,.string ⟨#[]⟩,.slice none 0 0,.slice none 0 0] 31)).frozen? ⟨w.heap.size+1,j,none⟩=false:=fun j=>by simp [go_sem]
 have hl:w.heap.size+1 < ((w.alloc (.cells #[.int .i64 kind,.bool neg,.int .u64 (lm V 0:Nat),.int .u64 (lm V 1:Nat),.int .u64 (lm V 2:Nat),.int .u64 (lm V 3:Nat),.int .u64 (bits:Nat),.string text,.slice aL nL cL,.slice aK nK cK] 31)).alloc (.cells #[.int .i64 0,.bool false,.int .u64 0,.int .u64 0,.int .u64 0,.int .u64 0,.int .u64 0,.string ⟨#[]⟩,.slice none 0 0,.slice none 0 0] 31)).heap.size:=by simp
 generalize (w.alloc (.cells #[.int .i64 kind,.bool neg,.int .u64 (lm V 0:Nat),.int .u64 (lm V 1:Nat),.int .u64 (lm V 2:Nat),.int .u64 (lm V 3:Nat),.int .u64 (bits:Nat),.string text,.slice aL nL cL,.slice aK nK cK] 31)).alloc (.cells #[.int .i64 0,.bool false,.int .u64 0,.int .u64 0,.int .u64 0,.int .u64 0,.int .u64 0,.string ⟨#[]⟩,.slice none 0 0,.slice none 0 0] 31)=W at *
 obtain ⟨_,_,_,_,_,_,_,_,_,_⟩:=X.out.all
 obtain ⟨B1,hB1⟩:∃ B,B=w.heap.size+1:=⟨_,rfl⟩
 have hbb:w.heap.size≤B1:=by omega
 rw [← hB1] at Y hf hl ⊢
 clear hB1
 repeat any_goals (first|(go_at_call 12;with_reducible refine (C1.out _ hW).mono ?_;rintro e w1 ⟨rfl,hb1⟩;have hl1:=Nat.lt_of_lt_of_le hl hb1.size;have Y1:=Lib.hid (Y.out.below hb1);obtain ⟨_,_,_,_,_,_,_,_,_,_⟩:=Y1.out.all;have hf1:∀ j,w1.frozen? ⟨B1,j,none⟩=false:=fun j=>(hb1.frozen (p:=⟨B1,j,none⟩) hl).trans (hf j);have hW1:=below_trans hW hb1)|go_skip|go_guarded|go_step|go_upon|(dsimp only []))
 exact bodyPost_ret (v:=.tuple #[.agg #[.int .i64 0,.bool false,.int .u64 0,.int .u64 0,.int .u64 0,.int .u64 0,.int .u64 0,.string ⟨#[]⟩,.slice none 0 0,.slice none 0 0],.bool false]) (by simp [results,Tryz.results10,go_sem, *]) rfl ⟨rfl,zb2⟩
theorem VT.sameB_self:∀ (T:VT) (w:World),T.In w→T.sameB T=true:=by
 intro T
 induction T with
 | nil=>exact fun w h=>h.elim
 | mk kind neg V bits text aL nL cL kids aK nK cK keys ih=>
  intro w hin
  obtain ⟨-,-,hk,-⟩:=hin
  simp only [VT.sameB]
  have e1:anyN (fun i=>decide (keys i≠keys i)) nK=false:=anyN_no0 fun i _=>by simp
  have e2:anyN (fun i => !(kids i).sameB (kids i)) nL=false:=anyN_no0 fun i hi=>by rw [ih i w (hk i hi)];rfl
  rw [e1,e2]
  simp
theorem Sim.self {w:World} {T:VT} (h:T.In w):Sim T T:=VT.sameB_self T w h
open Go
section
variable {P:Program} {w:World}
end
theorem wbx_new (w:World) (t:TypeId) (a0 a1 a2 a3 a4 a5 a6 a7 a8 a9:Value):WBx (w.alloc (.cells #[a0,a1,a2,a3,a4,a5,a6,a7,a8,a9] t)) w.heap.size a0 a1 a2 a3 a4 a5 a6 a7 a8 a9:=⟨⟨by simp [go_sem]⟩,fun j=>by simp [go_sem]⟩
end Go.Proofs.YtfondldmmcmloaaGreatDoor
namespace Go.Proofs.YtfondldmmcmloaaGreatDoor
open Go.RowKit
def nrmO (M:Nat→PM) (n:Nat) (s:ByteArray) (T:VT):VT:=if placeM M n s < 0 then T else (nrm2 M n T).msg (M (placeM M n s).toNat)
def RNrm (M:Nat→PM) (a:Option Addr) (n c:Nat) (T:VT):Prop:=∀ (k:Nat) (w:World),k < n→PL w a n c M→T.In w→T.right=true→T.long=false→(okT M n T).msg (M k)=true →
  Calls Tryz.prog 19 #[.slice a n c,.int .i64 (k:Nat),T.agg] w fun e w'=>∃ t:VT,e=.returned t.agg∧NrT w w' T ((nrm2 M n T).msg (M k)) t∧Below w.heap.size w w'
def RNmd (M:Nat→PM) (a:Option Addr) (n c:Nat) (T:VT):Prop:=∀ (s:ByteArray) (w:World),Asks M n s→PL w a n c M→T.In w→T.right=true→T.long=false→(okT M n T).one s=true →
  Calls Tryz.prog 39 #[.slice a n c,.string s,T.agg] w fun e w'=>∃ t:VT,e=.returned t.agg∧NrT w w' T (nrmO M n s T) t∧Below w.heap.size w w'
theorem rnormed_mk (M:Nat→PM) (a:Option Addr) (n c:Nat) (hNS:NoScal M n) (kind:Int) (neg:Bool) (V bits:Nat) (text:ByteArray) (aL:Option Addr) (nL cL:Nat) (kids:Nat→VT) (aK:Option Addr) (nK cK:Nat) (keys:Nat→ByteArray) (hN:RNrm M a n c (.mk kind neg V bits text aL nL cL kids aK nK cK keys)):RNmd M a n c (.mk kind neg V bits text aL nL cL kids aK nK cK keys):=by
 intro s w hA hL hin hr hl hok
 have HL:=Lib.hid hL
 have HIN:=Lib.hid hin
 have HR:=Lib.hid hr
 obtain ⟨sc,hsc⟩:∃ x,scalarB s=x:=⟨_,rfl⟩
 have C1:=Lib.hid fun wx=>RScalar_any s wx
 rw [hsc] at C1
 have C2:=Lib.hid fun wx (hx:Below w.heap.size w wx)=>RPlace_any a n c M s wx (HL.out.below hx)
 have C3:=Lib.hid fun (k:Nat) (hk:k < n) (ho:(okT M n (.mk kind neg V bits text aL nL cL kids aK nK cK keys)).msg (M k)=true) wx (hx:Below w.heap.size w wx)=>hN k wx hk (HL.out.below hx) (VT.In.below hx _ HIN.out) hr hl ho
 have HOK:=Lib.hid hok
 have HSC:=Lib.hid hsc
 have HNS:=Lib.hid hNS
 have HA:=Lib.hid hA
 unfold VT.agg VT.cells at C3 ⊢
 clear hL hin hr hl hok hsc hN hNS hA
 go_enter Tryz.func39,Tryz.ntmps39
 go_upto_region 1 with fail
 have NW:=Lib.hid (nd_start w 31 kind neg V bits text aL nL cL aK nK cK)
 generalize (w.alloc (.cells #[.int .i64 kind,.bool neg,.int .u64 (lm V 0:Nat),.int .u64 (lm V 1:Nat),.int .u64 (lm V 2:Nat),.int .u64 (lm V 3:Nat),.int .u64 (bits:Nat),.string text,.slice aL nL cL,.slice aK nK cK] 31)).alloc (.cells #[.int .i64 0,.bool false,.int .u64 0,.int .u64 0,.int .u64 0,.int .u64 0,.int .u64 0,.string ⟨#[]⟩,.slice none 0 0,.slice none 0 0] 31)=W at *
 obtain ⟨Bv,hBv⟩:∃ B,B=w.heap.size:=⟨_,rfl⟩
 obtain ⟨Br,hBr⟩:∃ B,B=w.heap.size+1:=⟨_,rfl⟩
 rw [← hBr,← hBv] at NW ⊢
 clear hBr hBv
 cases sc with
 | true=>
  repeat any_goals (first|(go_at_call 40;with_reducible refine (C1.out _).mono ?_;rintro e w1 ⟨rfl,hb1⟩;have V1:=Lib.hid (NW.out.v.below hb1);have R1:=Lib.hid (NW.out.r.below hb1);obtain ⟨_,_,_,_,_,_,_,_,_,_⟩:=V1.out.all;obtain ⟨_,_,_,_,_,_,_,_,_,_⟩:=R1.out.c.all;have hf1:=R1.out.f;have hl1:=R1.out.lt;have hr0:=NW.out.l;have hW1:=below_trans NW.out.b hb1)|go_skip|go_guarded|go_step|go_upon|(dsimp only []))
  have hb:∀ b,b≠Br→(((((((((((w1.setCell ⟨Br,0,none⟩ (.int .i64 kind)).setCell ⟨Br,1,none⟩ (.bool neg)).setCell ⟨Br,2,none⟩ (.int .u64 (lm V 0:Nat))).setCell ⟨Br,3,none⟩ (.int .u64 (lm V 1:Nat))).setCell ⟨Br,4,none⟩ (.int .u64 (lm V 2:Nat))).setCell ⟨Br,5,none⟩ (.int .u64 (lm V 3:Nat))).setCell ⟨Br,6,none⟩ (.int .u64 (bits:Nat))).setCell ⟨Br,7,none⟩ (.string text)).setCell ⟨Br,8,none⟩ (.slice aL nL cL)).setCell ⟨Br,9,none⟩ (.slice aK nK cK))).heap[b]? = w1.heap[b]? := fun b hb=>set10_block hb
  have hs10:w1.heap.size≤(((((((((((w1.setCell ⟨Br,0,none⟩ (.int .i64 kind)).setCell ⟨Br,1,none⟩ (.bool neg)).setCell ⟨Br,2,none⟩ (.int .u64 (lm V 0:Nat))).setCell ⟨Br,3,none⟩ (.int .u64 (lm V 1:Nat))).setCell ⟨Br,4,none⟩ (.int .u64 (lm V 2:Nat))).setCell ⟨Br,5,none⟩ (.int .u64 (lm V 3:Nat))).setCell ⟨Br,6,none⟩ (.int .u64 (bits:Nat))).setCell ⟨Br,7,none⟩ (.string text)).setCell ⟨Br,8,none⟩ (.slice aL nL cL)).setCell ⟨Br,9,none⟩ (.slice aK nK cK))).heap.size:=by simp
  refine bodyPost_ret (v:=.agg #[.int .i64 kind,.bool neg,.int .u64 (lm V 0:Nat),.int .u64 (lm V 1:Nat),.int .u64 (lm V 2:Nat),.int .u64 (lm V 3:Nat),.int .u64 (bits:Nat),.string text,.slice aL nL cL,.slice aK nK cK]) (by simp [results,Tryz.results39,go_sem, *]) rfl ⟨(.mk kind neg V bits text aL nL cL kids aK nK cK keys),rfl,⟨(VT.In.below hW1 _ HIN.out).kept hs10 (fun b _ h=>hb b h) (HIN.out.blk.mono fun b (h:b < w.heap.size)=>by omega),fun Q h0 _=>h0,?_⟩,zb2⟩
  unfold nrmO
  rw [if_pos (HNS.out s HSC.out)]
  exact right_self HR.out
 | false=>
  obtain ⟨z,hz⟩:∃ z:Nat,placeM M n s=z:=⟨(placeM M n s).toNat,by have:=HA.out.resolve_left (by rw [HSC.out];exact Bool.false_ne_true);omega⟩
  have hzn:z < n:=by have:=placeM_lt (M:=M) (n:=n) (s:=s);omega
  have C4:=Lib.hid fun wx (hx:Below w.heap.size w wx)=>C3.out z hzn (by have h:=one_msg HNS.out (s:=s) z0c (.mk kind neg V bits text aL nL cL kids aK nK cK keys);rw [hz] at h;exact h.symm.trans HOK.out) wx hx
  rw [hz] at C2
  have HZ:=Lib.hid hz
  clear C3 hz
  go_upto_region 3 with (go_at_call 40;with_reducible refine (C1.out _).mono ?_;rintro e w1 ⟨rfl,hb1⟩)
  have V1:=Lib.hid (NW.out.v.below hb1)
  have R1:=Lib.hid (NW.out.r.below hb1)
  have hW1:=below_trans NW.out.b hb1
  refine wp_region_late (fun w'=>VBx w' Bv kind neg V bits text aL nL cL aK nK cK) (fun i=>decide (6≤i)) z0a (V1.out.below (Below.refl _ _).drew) (fun hHeld=>?_)
  refine wpAnyT_take (i:=0) (v:=?_) rfl z0a z0a z0a z0a z0a (fun _ _ _ h=>h) (Or.inl ⟨by rfl,?_⟩) hHeld ?_
  rotate_left
  (focus (intro wq hSw;obtain ⟨_,_,_,_,_,_,_,_,_,_⟩:=hSw.all;go_simp;(try with_reducible rfl)))
  simp only [Act.put,List.setIfInBounds_toArray,List.set_cons_zero,List.set_cons_succ,List.getElem_toArray,List.getElem_cons_zero]
  refine wpAnyT_take (i:=1) (v:=?_) rfl z0a z0a z0a z0a z0a (fun _ _ _ h=>h) (Or.inl ⟨by rfl,?_⟩) hHeld ?_
  rotate_left
  (focus (intro wq hSw;obtain ⟨_,_,_,_,_,_,_,_,_,_⟩:=hSw.all;go_simp;(try with_reducible rfl)))
  simp only [Act.put,List.setIfInBounds_toArray,List.set_cons_zero,List.set_cons_succ,List.getElem_toArray,List.getElem_cons_succ,List.getElem_cons_zero]
  refine wpAnyT_take (i:=2) (v:=?_) rfl z0a z0a z0a z0a z0a (fun _ _ _ h=>h) (Or.inl ⟨by rfl,?_⟩) hHeld ?_
  rotate_left
  (focus (intro wq hSw;obtain ⟨_,_,_,_,_,_,_,_,_,_⟩:=hSw.all;go_simp;(try with_reducible rfl)))
  simp only [Act.put,List.setIfInBounds_toArray,List.set_cons_zero,List.set_cons_succ,List.getElem_toArray,List.getElem_cons_succ,List.getElem_cons_zero]
  refine wpAnyT_take (i:=4) (v:=?_) rfl z0a z0a z0a z0a z0a (fun _ _ _ h=>h) (Or.inl ⟨by rfl,?_⟩) hHeld ?_
  rotate_left
  (focus (intro wq hSw;obtain ⟨_,_,_,_,_,_,_,_,_,_⟩:=hSw.all;go_simp;(try with_reducible rfl)))
  simp only [Act.put,List.setIfInBounds_toArray,List.set_cons_zero,List.set_cons_succ,List.getElem_toArray,List.getElem_cons_succ,List.getElem_cons_zero]
  refine wpAnyT_ready (rs:=[3]) z0a z0f ?_
  refine AllReadyT.cons rfl (fun K hK=>?_) AllReadyT.nil
  go_simp
  (go_at_call 52;with_reducible refine (C2.out _ (below_trans hW1 (Below.refl _ _).drew)).mono ?_;rintro e w' ⟨rfl,rfl⟩)
  refine hK.out _ _ (fun _=>hHeld) (fun _=>?_)
  clear hK K
  (try simp only [Act.put,List.setIfInBounds_toArray,List.set_cons_zero,List.set_cons_succ,List.getElem_toArray,List.getElem_cons_succ,List.getElem_cons_zero])
  refine wpAnyT_ready (rs:=[5]) z0a z0f ?_
  refine AllReadyT.cons rfl (fun K hK=>?_) AllReadyT.nil
  go_simp
  (go_at_call 19;with_reducible refine (C4.out _ (below_trans hW1 (Below.refl _ _).drew)).mono ?_;rintro e w2 ⟨tt,rfl,hNT,hb2⟩;obtain ⟨kindt,negt,Vt,bitst,textt,aLt,nLt,cLt,kidst,aKt,nKt,cKt,keyst,rfl⟩:=VT.In.lit hNT.i;simp only)
  have hd2:=below_trans (Below.refl w1.heap.size w1).drew hb2
  refine hK.out _ _ (fun _=>hHeld.below hb2) (fun _=>?_)
  clear hK K
  have R2:=Lib.hid (R1.out.below hd2)
  obtain ⟨_,_,_,_,_,_,_,_,_,_⟩:=R2.out.c.all
  have hf1:=R2.out.f
  have hl1:=R2.out.lt
  have hr0:=NW.out.l
  have hW2:=below_trans hW1 hd2
  have hl2:Br < w1.heap.size:=R1.out.lt
  (try simp only [Act.put,List.setIfInBounds_toArray,List.set_cons_zero,List.set_cons_succ,List.getElem_toArray,List.getElem_cons_succ,List.getElem_cons_zero])
  refine wpAnyT_ready (rs:=[6]) z0a z0f ?_
  refine AllReadyT.cons rfl (fun K hK=>?_) AllReadyT.nil
  go_simp
  refine hK.out _ _ (fun h=>z0q) (fun _=>?_)
  clear hK K
  (try simp only [Act.put,List.setIfInBounds_toArray,List.set_cons_zero,List.set_cons_succ,List.getElem_toArray,List.getElem_cons_succ,List.getElem_cons_zero])
  refine wpAnyT_done z0a ?_ _
  refine NoPanic.normal ?_
  repeat any_goals (first|go_skip|go_guarded|go_step|go_upon|(simp only [];done))
  have hb:∀ b,b≠Br→(((((((((((w2.setCell ⟨Br,0,none⟩ (.int .i64 kindt)).setCell ⟨Br,1,none⟩ (.bool negt)).setCell ⟨Br,2,none⟩ (.int .u64 (lm Vt 0:Nat))).setCell ⟨Br,3,none⟩ (.int .u64 (lm Vt 1:Nat))).setCell ⟨Br,4,none⟩ (.int .u64 (lm Vt 2:Nat))).setCell ⟨Br,5,none⟩ (.int .u64 (lm Vt 3:Nat))).setCell ⟨Br,6,none⟩ (.int .u64 (bitst:Nat))).setCell ⟨Br,7,none⟩ (.string textt)).setCell ⟨Br,8,none⟩ (.slice aLt nLt cLt)).setCell ⟨Br,9,none⟩ (.slice aKt nKt cKt))).heap[b]? = w2.heap[b]? := fun b hb=>set10_block hb
  have hs10:w2.heap.size≤(((((((((((w2.setCell ⟨Br,0,none⟩ (.int .i64 kindt)).setCell ⟨Br,1,none⟩ (.bool negt)).setCell ⟨Br,2,none⟩ (.int .u64 (lm Vt 0:Nat))).setCell ⟨Br,3,none⟩ (.int .u64 (lm Vt 1:Nat))).setCell ⟨Br,4,none⟩ (.int .u64 (lm Vt 2:Nat))).setCell ⟨Br,5,none⟩ (.int .u64 (lm Vt 3:Nat))).setCell ⟨Br,6,none⟩ (.int .u64 (bitst:Nat))).setCell ⟨Br,7,none⟩ (.string textt)).setCell ⟨Br,8,none⟩ (.slice aLt nLt cLt)).setCell ⟨Br,9,none⟩ (.slice aKt nKt cKt))).heap.size:=by simp
  refine bodyPost_ret (v:=.agg #[.int .i64 kindt,.bool negt,.int .u64 (lm Vt 0:Nat),.int .u64 (lm Vt 1:Nat),.int .u64 (lm Vt 2:Nat),.int .u64 (lm Vt 3:Nat),.int .u64 (bitst:Nat),.string textt,.slice aLt nLt cLt,.slice aKt nKt cKt]) (by simp [results,Tryz.results39,go_sem, *]) rfl ⟨(.mk kindt negt Vt bitst textt aLt nLt cLt kidst aKt nKt cKt keyst),rfl,⟨hNT.i.kept hs10 (fun b _ h=>hb b h) (hNT.q (fun b=>b≠Br) (HIN.out.blk.mono fun b (h:b < w.heap.size)=>by omega) (fun b (h:w1.heap.size≤b)=>by omega)),fun Q h0 h1=>hNT.q Q h0 (fun b (h:w1.heap.size≤b)=>h1 b (Nat.le_trans hW1.size h)),?_⟩,zb2⟩
  unfold nrmO
  rw [if_neg (by rw [HZ.out];omega),HZ.out]
  exact hNT.s
structure NrV (w W:World) (Bv Br Bo:Nat) (kind:Int) (neg:Bool) (V bits:Nat) (text:ByteArray) (aL:Option Addr) (nL cL:Nat) (aK:Option Addr) (nK cK:Nat):Prop where
 v:VBx W Bv kind neg V bits text aL nL cL aK nK cK
 r:WBx W Br (.int .i64 0) (.bool false) (.int .u64 0) (.int .u64 0) (.int .u64 0) (.int .u64 0) (.int .u64 0) (.string ⟨#[]⟩) (.slice none 0 0) (.slice none 0 0)
 o:WBx W Bo (.int .i64 8) (.bool false) (.int .u64 0) (.int .u64 0) (.int .u64 0) (.int .u64 0) (.int .u64 0) (.string ⟨#[]⟩) (.slice none 0 0) (.slice none 0 0)
 b:Below w.heap.size w W
 l:w.heap.size≤Bv∧Bv < W.heap.size∧Bv < W.heap.size∧Br < W.heap.size∧Bo < W.heap.size∧w.heap.size≤Bo∧w.heap.size≤Br
 n:Bv≠Bo∧Bv≠Bo∧Br≠Bo
theorem nv_start (w:World) (t2:TypeId) (kind:Int) (neg:Bool) (V bits:Nat) (text:ByteArray) (aL:Option Addr) (nL cL:Nat) (aK:Option Addr) (nK cK:Nat) :
  NrV w (((w.alloc (.cells #[.int .i64 kind,.bool neg,.int .u64 (lm V 0:Nat),.int .u64 (lm V 1:Nat),.int .u64 (lm V 2:Nat),.int .u64 (lm V 3:Nat),.int .u64 (bits:Nat),.string text,.slice aL nL cL,.slice aK nK cK] t2)).alloc (.cells #[.int .i64 0,.bool false,.int .u64 0,.int .u64 0,.int .u64 0,.int .u64 0,.int .u64 0,.string ⟨#[]⟩,.slice none 0 0,.slice none 0 0] t2)).alloc (.cells #[.int .i64 8,.bool false,.int .u64 0,.int .u64 0,.int .u64 0,.int .u64 0,.int .u64 0,.string ⟨#[]⟩,.slice none 0 0,.slice none 0 0] t2)) w.heap.size (w.heap.size+1) (w.heap.size+1+1) kind neg V bits text aL nL cL aK nK cK:=by
 refine ⟨⟨by simp [go_sem]⟩,⟨⟨by simp [go_sem]⟩,fun j=>by simp [go_sem]⟩,⟨⟨by simp [go_sem]⟩,fun j=>by simp [go_sem]⟩,zb2,?_,by omega⟩
 simp
 omega
theorem scT_kinds {l:List UInt8} {kind:Int} {neg:Bool} {V:Nat} (h:scT l kind neg V=true):kind=2∨kind=3∨kind=4∨kind=5∨kind=6:=by
 refine Classical.byContradiction fun c=>?_
 have h2:¬ kind=2:=fun e=>c (.inl e)
 have h3:¬ kind=3:=fun e=>c (.inr (.inl e))
 have h4:¬ kind=4:=fun e=>c (.inr (.inr (.inl e)))
 have h5:¬ kind=5:=fun e=>c (.inr (.inr (.inr (.inl e))))
 have h6:¬ kind=6:=fun e=>c (.inr (.inr (.inr (.inr e))))
 unfold scT rngT at h
 simp only [decide_eq_false h2,decide_eq_false h3,decide_eq_false h4,decide_eq_false h5,decide_eq_false h6,Bool.false_and,Bool.or_false,ite_self] at h
 cases h
theorem sxf_lt {w:World} {B:Nat} {a0 a1 a2 a3 a4 a5:Value} (h:SxF w B a0 a1 a2 a3 a4 a5):B < w.heap.size:=World.block_lt_of_cell? w ⟨B,0,none⟩ h.c.1
theorem drew_hb {W w4:World} (hb:Below W.drew.heap.size W.drew w4):Below W.heap.size W w4:=below_trans (Below.refl _ _).drew hb
theorem one_f {W w4:World} {t:TypeId} (hb:Below (W.alloc (.cells #[.string ⟨#[]⟩,.string ⟨#[]⟩,.int .i64 0,.bool false,.bool false,.bool false] t)).drew.heap.size (W.alloc (.cells #[.string ⟨#[]⟩,.string ⟨#[]⟩,.int .i64 0,.bool false,.bool false,.bool false] t)).drew w4):SxF w4 W.heap.size (.string ⟨#[]⟩) (.string ⟨#[]⟩) (.int .i64 0) (.bool false) (.bool false) (.bool false):=(sxf_new W t (.string ⟨#[]⟩) (.string ⟨#[]⟩) (.int .i64 0) (.bool false) (.bool false) (.bool false)).below (drew_hb hb)
theorem two_f {W w4:World} {t:TypeId} {o:Obj} (hb:Below ((W.alloc (.cells #[.string ⟨#[]⟩,.string ⟨#[]⟩,.int .i64 0,.bool false,.bool false,.bool false] t)).alloc o).drew.heap.size ((W.alloc (.cells #[.string ⟨#[]⟩,.string ⟨#[]⟩,.int .i64 0,.bool false,.bool false,.bool false] t)).alloc o).drew w4):SxF w4 W.heap.size (.string ⟨#[]⟩) (.string ⟨#[]⟩) (.int .i64 0) (.bool false) (.bool false) (.bool false):=((sxf_new W t (.string ⟨#[]⟩) (.string ⟨#[]⟩) (.int .i64 0) (.bool false) (.bool false) (.bool false)).below (below_alloc (Below.refl _ _) o)).below (drew_hb hb)
theorem one_x {W w4:World} {t:TypeId} (hb:Below (W.alloc (.cells #[.int .i64 0,.bool false,.int .u64 0,.int .u64 0,.int .u64 0,.int .u64 0,.int .u64 0,.string ⟨#[]⟩,.slice none 0 0,.slice none 0 0] t)).drew.heap.size (W.alloc (.cells #[.int .i64 0,.bool false,.int .u64 0,.int .u64 0,.int .u64 0,.int .u64 0,.int .u64 0,.string ⟨#[]⟩,.slice none 0 0,.slice none 0 0] t)).drew w4):WBx w4 W.heap.size (.int .i64 0) (.bool false) (.int .u64 0) (.int .u64 0) (.int .u64 0) (.int .u64 0) (.int .u64 0) (.string ⟨#[]⟩) (.slice none 0 0) (.slice none 0 0):=(wbx_new W t (.int .i64 0) (.bool false) (.int .u64 0) (.int .u64 0) (.int .u64 0) (.int .u64 0) (.int .u64 0) (.string ⟨#[]⟩) (.slice none 0 0) (.slice none 0 0)).below (drew_hb hb)
theorem two_x {W w4:World} {t:TypeId} {o:Obj} (hb:Below ((W.alloc (.cells #[.int .i64 0,.bool false,.int .u64 0,.int .u64 0,.int .u64 0,.int .u64 0,.int .u64 0,.string ⟨#[]⟩,.slice none 0 0,.slice none 0 0] t)).alloc o).drew.heap.size ((W.alloc (.cells #[.int .i64 0,.bool false,.int .u64 0,.int .u64 0,.int .u64 0,.int .u64 0,.int .u64 0,.string ⟨#[]⟩,.slice none 0 0,.slice none 0 0] t)).alloc o).drew w4):WBx w4 W.heap.size (.int .i64 0) (.bool false) (.int .u64 0) (.int .u64 0) (.int .u64 0) (.int .u64 0) (.int .u64 0) (.string ⟨#[]⟩) (.slice none 0 0) (.slice none 0 0):=((wbx_new W t (.int .i64 0) (.bool false) (.int .u64 0) (.int .u64 0) (.int .u64 0) (.int .u64 0) (.int .u64 0) (.string ⟨#[]⟩) (.slice none 0 0) (.slice none 0 0)).below (below_alloc (Below.refl _ _) o)).below (drew_hb hb)
theorem one_f1 {W w4:World} {t:TypeId} {o:Obj} (hb:Below ((W.alloc o).alloc (.cells #[.string ⟨#[]⟩,.string ⟨#[]⟩,.int .i64 0,.bool false,.bool false,.bool false] t)).drew.heap.size ((W.alloc o).alloc (.cells #[.string ⟨#[]⟩,.string ⟨#[]⟩,.int .i64 0,.bool false,.bool false,.bool false] t)).drew w4):SxF w4 (W.heap.size+1) (.string ⟨#[]⟩) (.string ⟨#[]⟩) (.int .i64 0) (.bool false) (.bool false) (.bool false):=by
 have h:=one_f hb
 rwa [show (W.alloc o).heap.size=W.heap.size+1 by simp] at h
theorem one_x1 {W w4:World} {t:TypeId} {o:Obj} (hb:Below ((W.alloc o).alloc (.cells #[.int .i64 0,.bool false,.int .u64 0,.int .u64 0,.int .u64 0,.int .u64 0,.int .u64 0,.string ⟨#[]⟩,.slice none 0 0,.slice none 0 0] t)).drew.heap.size ((W.alloc o).alloc (.cells #[.int .i64 0,.bool false,.int .u64 0,.int .u64 0,.int .u64 0,.int .u64 0,.int .u64 0,.string ⟨#[]⟩,.slice none 0 0,.slice none 0 0] t)).drew w4):WBx w4 (W.heap.size+1) (.int .i64 0) (.bool false) (.int .u64 0) (.int .u64 0) (.int .u64 0) (.int .u64 0) (.int .u64 0) (.string ⟨#[]⟩) (.slice none 0 0) (.slice none 0 0):=by
 have h:=one_x hb
 rwa [show (W.alloc o).heap.size=W.heap.size+1 by simp] at h
theorem left_nought {kind:Int} {neg:Bool} {V bits:Nat} {text:ByteArray} {aL:Option Addr} {nL cL:Nat} {kids:Nat→VT} {aK:Option Addr} {nK cK:Nat} {keys:Nat→ByteArray} (hr:(VT.mk kind neg V bits text aL nL cL kids aK nK cK keys).right=true) (hk:kind=2∨kind=3∨kind=4∨kind=5∨kind=6) :
  noughtB kind neg V bits text=(!decide (kind=4) && decide (neg=false∧V=0∧bits=0∧text=⟨#[]⟩)):=by
 unfold VT.right at hr
 rw [Bool.and_eq_true,Bool.and_eq_true] at hr
 obtain ⟨h1,h2,h3,h4⟩:=of_decide_eq_true hr.1.2
 unfold bareNeg at h1
 unfold bareV at h2
 unfold bareB at h3
 unfold bareT at h4
 unfold noughtB
 rcases hk with rfl|rfl|rfl|rfl|rfl
 ·rw [if_neg z0e] at h1 h2
  rw [if_neg z0e] at h4
  subst h1 h2 h4
  simp
 ·rw [if_neg z0e,if_neg z0e] at h3
  rw [if_neg z0e] at h4
  subst h3 h4
  cases neg <;> simp <;> (by_cases e:V=0 <;> simp [e])
 ·simp
 ·rw [if_neg z0e] at h1 h2
  rw [if_neg z0e,if_neg z0e] at h3
  subst h1 h2 h3
  simp
 ·rw [if_neg z0e] at h1 h2
  rw [if_neg z0e,if_neg z0e] at h3
  subst h1 h2 h3
  simp
theorem list_sim {M:Nat→PM} {n:Nat} {f:PF} {kind:Int} {neg:Bool} {V bits:Nat} {text:ByteArray} {aL:Option Addr} {nL cL:Nat} {kids:Nat→VT} {aK:Option Addr} {nK cK:Nat} {keys:Nat→ByteArray} (hr:(VT.mk kind neg V bits text aL nL cL kids aK nK cK keys).right=true) (hk:kind=7∨kind=8) (hf:(f.rep || f.map)=true) (aL':Option Addr) (cL':Nat) (tq:Nat→VT)
  (ht:∀ i,i < nL→Sim (tq i) (nrmO M n f.type (kids i))):Sim (.mk kind false 0 0 ⟨#[]⟩ aL' nL cL' tq aK nK cK keys) (nrmX M n f (.mk kind neg V bits text aL nL cL kids aK nK cK keys) (nrm2 M n (.mk kind neg V bits text aL nL cL kids aK nK cK keys))):=by
 have h0:=hr
 unfold VT.right at h0
 rw [Bool.and_eq_true,Bool.and_eq_true] at h0
 obtain ⟨h1,h2,h3,h4⟩:=of_decide_eq_true h0.1.2
 have k3:¬ kind=3:=by omega
 have k2:¬ kind=2:=by omega
 have k4:¬ kind=4:=by omega
 have k5:¬ (kind=5∨kind=6):=by omega
 unfold bareNeg at h1
 unfold bareV at h2
 unfold bareB at h3
 unfold bareT at h4
 rw [if_neg k3] at h1 h2
 rw [if_neg k2,if_neg k4] at h3
 rw [if_neg k5] at h4
 unfold nrmX
 by_cases c:placeM M n f.type < 0
 ·rw [if_pos c]
  refine sim_mk.2 ⟨⟨rfl,h1.symm,h2.symm,h3.symm,h4.symm,rfl,rfl⟩,fun _ _=>rfl,fun i hi=>?_⟩
  have:=ht i hi
  unfold nrmO at this
  rwa [if_pos c] at this
 ·rw [if_neg c,if_pos hf,nrm_all]
  refine sim_mk.2 ⟨⟨rfl,h1.symm,h2.symm,h3.symm,h4.symm,rfl,rfl⟩,fun _ _=>rfl,fun i hi=>?_⟩
  have:=ht i hi
  unfold nrmO at this
  rwa [if_neg c] at this
end Go.Proofs.YtfondldmmcmloaaGreatDoor
