/- PJ, PK, PN. -/
import Derived.Test.YtfondldmmcmloaaDoorPd16
set_option maxRecDepth 1000000
set_option maxHeartbeats 8000000
namespace Go.Proofs.YtfondldmmcmloaaDoor
open Go Go.RowKit
theorem z17zs1 {p q:Prop} (h:q) (e:q→p:=by intro hq;(try simp only [Act.put,List.setIfInBounds_toArray,List.set_cons_zero,List.set_cons_succ]);exact hq):p:=e h
theorem z17zk1 {p:Prop} (h:p:=by
 repeat any_goals (first|(go_at_call 57;with_reducible refine D2.out.mono ?_;rintro e w1 ⟨rfl,hb1⟩)|(with_reducible refine calls_at 66 D1.out ?_;rintro e w1 ⟨rfl,hb1⟩)|go_skip|go_guarded|go_step|go_upon|(dsimp only []))
 exact bodyPost_ret (v:=.bool R) (by simp [results,Tryd.results40,go_sem]) rfl ⟨rfl,below_trans hW0 hb1⟩):p:=h
theorem z17zk2 {p:Prop} (h:p:=by
 obtain rfl:R=false:=by rw [HRR.out,decide_eq_false c];rfl
 clear c
 repeat any_goals (first|go_skip|go_guarded|go_step|go_upon|(simp only [];done))
 exact bodyPost_ret (v:=.bool false) (by simp [results,Tryd.results40,go_sem]) rfl ⟨rfl,hW0⟩):p:=h
theorem z17zk3 {p:Prop} (h:p:=by
 repeat any_goals (first|go_skip|go_guarded|go_step|go_upon|(simp only [];done))
 exact bodyPost_ret (v:=.bool false) (by simp [results,Tryd.results21,go_sem]) rfl ⟨rfl,below_trans hW2 hw2⟩):p:=h
end Go.Proofs.YtfondldmmcmloaaDoor
namespace Go.Proofs.YtfondldmmcmloaaDoor
open Go.RowKit
theorem IndexV2_any (f:FuncId) (eg:∀ args W,(callFunc f args).run Tryd.prog W=.ok (.enter f args) W) (B3 B4:Nat) (p:Nat→Bool) (aL:Option Addr) (nL cL:Nat) (kids:Nat→VT) (w:World) (hcL:cL≤maxLen) (hlL:nL≤cL)
  (hL:nL=0∨∃ b off,aL=some ⟨b,off,none⟩∧b < w.heap.size∧∀ i,i < nL→∀ j,j < 10→w.cell? ⟨b,off+i * 10+j,none⟩=(kids i).cells[j]?) (hK:∀ i,i < nL→(kids i).In w)
  (hf:∀ i,i < nL→∀ w':World,Below w.heap.size w w'→Calls Tryd.prog f #[(kids i).agg,.pointer (some ⟨B3,0,none⟩),.pointer (some ⟨B4,0,none⟩)] w' fun e w2=>e=.returned (.bool (p i))∧Below w'.heap.size w' w2) :
  Calls Tryd.prog 71 #[.slice aL nL cL,.func (.func f) #[] #[.pointer (some ⟨B3,0,none⟩),.pointer (some ⟨B4,0,none⟩)]] w fun e w'=>e=.returned (.int .i64 (fstN p nL))∧Below w.heap.size w w':=by
 have HL:=Lib.hid hL
 have HK:=Lib.hid hK
 have HF:=Lib.hid hf
 clear hL hK hf
 simp only [maxLen] at hcL
 go_enter Tryd.func71,Tryd.ntmps71
 repeat any_goals (first|go_skip|go_guarded|go_step|go_upon|(simp only [];done))
 go_loopw [8] (fun i wr=>∃ k:Nat,k≤nL∧i=.int .i64 k∧fstN p k = -1∧Below w.heap.size w wr) (fun i _=>nL - (intOf i).toNat)
 case atStart=>exact ⟨0,Nat.zero_le _,rfl,rfl,Below.refl _ _⟩
 case round=>
  obtain ⟨k,hk,rfl,hA,hW⟩:=hrel
  have HA1:=Lib.hid hA
  clear hA
  by_cases hkn:k < nL
  ·obtain ⟨b,off,kind',neg',V',bits',text',aL',nL',cL',kids',aK',nK',cK',keys',rfl,hb,hkid,⟨c0,c1,c2,c3,c4,c5,c6,c7,c8,c9⟩,-⟩:=kid_lit HL.out HK.out hkn hW
   have i1:(k:Int) < (nL:Int):=by omega
   have i2:(0:Int)≤(k:Int):=by omega
   have i5:(k:Int).toNat=k:=rfl
   obtain ⟨x,hx⟩:∃ x:Bool,x=p k:=⟨_,rfl⟩
   have HC:∀ w'':World,Below wr.heap.size wr w''→Calls Tryd.prog f #[(kids k).agg,.pointer (some ⟨B3,0,none⟩),.pointer (some ⟨B4,0,none⟩)] w'' fun e w'=>e=.returned (.bool x)∧Below w''.heap.size w'' w':=fun w'' hb=>by
    have:=HF.out k hkn w'' (below_trans hW hb)
    rwa [← hx] at this
   rw [hkid] at HC
   simp only [VT.agg,VT.cells] at HC
   have HC:=Lib.hid HC
   have HX:=Lib.hid hx
   clear hkid hx
   cases x with
   | true=>
    repeat any_goals (first|(with_reducible refine calls_at f (HC.out _ zb2) ?_;rintro e w1 ⟨rfl,hb1⟩)|go_skip|go_guarded|go_step|go_upon|(dsimp only []))
    have e:fstN p nL=k:=by
     have h1:fstN p (k+1)=k:=by simp only [fstN];rw [HA1.out,← HX.out];simp
     rw [fstN_keep (k:=k+1) (by rw [h1];omega) z0b,h1]
    exact bodyPost_ret (v:=.int .i64 k) (by simp [results,Tryd.results71,go_sem]) rfl ⟨by rw [e],zb2⟩
   | false=>
    repeat any_goals (first|(with_reducible refine calls_at f (HC.out _ zb2) ?_;rintro e w1 ⟨rfl,hb1⟩)|go_skip|go_guarded|go_step|go_upon|(dsimp only []))
    go_roundw
    case rel=>exact ⟨k+1,by omega,rfl,by simp only [fstN];rw [HA1.out,← HX.out];simp,zb2⟩
    case measure=>simp [intOf];omega
  ·have hk':k=nL:=by omega
   subst hk'
   have i1:¬ (k:Int) < (k:Int):=by omega
   repeat any_goals (first|go_skip|go_guarded|go_step|go_upon|(simp only [];done))
   exact bodyPost_ret (v:=.int .i64 (-1)) (by simp [results,Tryd.results71,go_sem]) rfl ⟨by rw [HA1.out],hW⟩
theorem ContV2_any (f:FuncId) (eg:∀ args W,(callFunc f args).run Tryd.prog W=.ok (.enter f args) W) (B3 B4:Nat) (p:Nat→Bool) (aL:Option Addr) (nL cL:Nat) (kids:Nat→VT) (w:World) (hcL:cL≤maxLen) (hlL:nL≤cL)
  (hL:nL=0∨∃ b off,aL=some ⟨b,off,none⟩∧b < w.heap.size∧∀ i,i < nL→∀ j,j < 10→w.cell? ⟨b,off+i * 10+j,none⟩=(kids i).cells[j]?) (hK:∀ i,i < nL→(kids i).In w)
  (hf:∀ i,i < nL→∀ w':World,Below w.heap.size w w'→Calls Tryd.prog f #[(kids i).agg,.pointer (some ⟨B3,0,none⟩),.pointer (some ⟨B4,0,none⟩)] w' fun e w2=>e=.returned (.bool (p i))∧Below w'.heap.size w' w2) :
  Calls Tryd.prog 57 #[.slice aL nL cL,.func (.func f) #[] #[.pointer (some ⟨B3,0,none⟩),.pointer (some ⟨B4,0,none⟩)]] w fun e w'=>e=.returned (.bool (anyN p nL))∧Below w.heap.size w w':=by
 have C:=IndexV2_any f eg B3 B4 p aL nL cL kids w hcL hlL hL hK hf
 obtain ⟨z,hz⟩:∃ z,z=fstN p nL:=⟨_,rfl⟩
 have e:=fstN_any (p:=p) nL
 rw [← hz] at C e
 have C:=Lib.hid C
 rw [← e]
 clear hL hK hf hz e
 go_enter Tryd.func57,Tryd.ntmps57
 repeat any_goals (first|(go_at_call 71;with_reducible refine C.out.mono ?_;rintro e w1 ⟨rfl,hb1⟩)|go_skip|go_guarded|go_step|go_upon|(dsimp only []))
 exact bodyPost_ret (v:=.bool (decide (0≤z))) (by simp [results,Tryd.results57,go_sem]) rfl ⟨rfl,zb2⟩

structure ML (w:World) (b o:Nat) (m:PM):Prop where
 all:w.cell? ⟨b,o,none⟩=some (.string m.name)∧w.cell? ⟨b,o+1,none⟩=some (.slice m.aF m.nF m.cF)∧w.cell? ⟨b,o+2,none⟩=some (.slice m.aN m.nN m.cN)∧w.cell? ⟨b,o+3,none⟩=some (.slice m.aS m.nS m.cS)∧True
theorem ML.below {w w1:World} {b o:Nat} {m:PM} (h:ML w b o m) (hb:Below w.heap.size w w1):ML w1 b o m:=by
 obtain ⟨h0,h1,h2,h3,-⟩:=h.all
 exact ⟨keep_cell hb h0,keep_cell hb h1,keep_cell hb h2,keep_cell hb h3,trivial⟩
section
variable (M:Nat→PM) (a:Option Addr) (n c:Nat)
def PIs (T:VT):Prop:=∀ (s:ByteArray) (w:World),Asks M n s→PL w a n c M→T.In w→T.right=true→Tab w →
 Calls Tryd.prog 67 #[.slice a n c,.string s,T.agg] w fun e w'=>e=.returned (.bool ((okT M n T).one s))∧Below w.heap.size w w'
def PMem (T:VT):Prop:=∀ (f:PF) (w:World),Asks M n f.type→PL w a n c M→T.In w→T.right=true→Tab w →
 Calls Tryd.prog 40 #[.slice a n c,f.agg,T.agg] w fun e w'=>e=.returned (.bool (memO f T.kd (okT M n T)))∧Below w.heap.size w w'
def PMsg (T:VT):Prop:=∀ (k:Nat) (w:World),k < n→PL w a n c M→T.In w→T.right=true→Tab w →
 Calls Tryd.prog 21 #[.slice a n c,(M k).agg,T.agg] w fun e w'=>e=.returned (.bool ((okT M n T).msg (M k)))∧Below w.heap.size w w'
end
theorem memC_any (M:Nat→PM) (a:Option Addr) (n c:Nat) (T:VT) (hI:PIs M a n c T) (ty:ByteArray) (hA:Asks M n ty) (B3 B4:Nat) (w:World) (h3:w.cell? ⟨B3,0,none⟩=some (.slice a n c)) (h4:w.cell? ⟨B4,1,none⟩=some (.string ty))
  (hL:PL w a n c M) (hin:T.In w) (hr:T.right=true) (hT:Tab w) :
  Calls Tryd.prog 66 #[T.agg,.pointer (some ⟨B3,0,none⟩),.pointer (some ⟨B4,0,none⟩)] w fun e w'=>e=.returned (.bool (!(okT M n T).one ty))∧Below w.heap.size w w':=by
 have hb3:B3 < w.heap.size:=World.block_lt_of_cell? w _ h3
 have hb4:B4 < w.heap.size:=World.block_lt_of_cell? w _ h4
 have C:=Lib.hid fun wx (hx:Below w.heap.size w wx)=>hI ty wx hA (hL.below hx) (VT.In.below hx _ hin) hr (hT.below hx)
 generalize (okT M n T).one ty=x at C ⊢
 clear hI hA hL hr hT
 cases T with
 | nil=>exact hin.elim
 | mk kind neg V bits text aL nL cL kids aK nK cK keys=>
  clear hin
  unfold VT.agg VT.cells at C ⊢
  go_enter Tryd.func66,Tryd.ntmps66
  repeat any_goals (first|(go_at_call 67;with_reducible refine (C.out _ zb2).mono ?_;rintro e w1 ⟨rfl,hb1⟩)|go_skip|go_guarded|go_step|go_upon|(dsimp only []))
  exact bodyPost_ret (v:=.bool (!x)) (by simp [results,Tryd.results66,go_sem]) rfl ⟨rfl,zb2⟩
theorem right_parts {kind:Int} {neg:Bool} {V bits:Nat} {text:ByteArray} {aL:Option Addr} {nL cL:Nat} {kids:Nat→VT} {aK:Option Addr} {nK cK:Nat} {keys:Nat→ByteArray} (h:(VT.mk kind neg V bits text aL nL cL kids aK nK cK keys).right=true) :
  (kind=3→mayI neg V=true)∧(kind=8→nK=nL)∧(∀ i,i < nL→(kids i).right=true):=by
 unfold VT.right at h
 rw [Bool.and_eq_true,Bool.and_eq_true] at h
 obtain ⟨⟨h1,-⟩,h3⟩:=h
 refine ⟨fun hk=>?_,fun hk=>?_,fun i hi=>?_⟩
 ·subst hk
  simp [midB] at h1
  exact h1.2
 ·subst hk
  simp [midB] at h1
  exact h1.1
 ·rw [Bool.not_eq_true'] at h3
  have:=anyN_no h3 hi
  simpa using this
theorem member_mk (M:Nat→PM) (a:Option Addr) (n c:Nat) (kind:Int) (neg:Bool) (V bits:Nat) (text:ByteArray) (aL:Option Addr) (nL cL:Nat) (kids:Nat→VT) (aK:Option Addr) (nK cK:Nat) (keys:Nat→ByteArray) (hK:∀ i,i < nL→PIs M a n c (kids i)) (hI:PIs M a n c (.mk kind neg V bits text aL nL cL kids aK nK cK keys)):PMem M a n c (.mk kind neg V bits text aL nL cL kids aK nK cK keys):=by
 intro f w hA hL hin hr hT
 obtain ⟨nm,ty,nu,op,re,ma⟩:=f
 have HR:=Lib.hid (right_parts hr)
 have HIN:=Lib.hid hin
 obtain ⟨ho,hLL,hkk,-⟩:=hin
 have hcL:=ho.lc
 have hlL:=ho.l
 have hmf:∀ (fn:Fn) (first cap:Array Value) (w:World),(Instr.makeFunc fn first cap).run Tryd.prog w=.ok (.func fn first cap) w:=fun _ _ _ _=>rfl
 obtain ⟨al,hal⟩:∃ x,(okT M n (.mk kind neg V bits text aL nL cL kids aK nK cK keys)).all ty=x:=⟨_,rfl⟩
 obtain ⟨on,hon⟩:∃ x,(okT M n (.mk kind neg V bits text aL nL cL kids aK nK cK keys)).one ty=x:=⟨_,rfl⟩
 obtain ⟨R,hR⟩:∃ R,R=(if re=true then decide (kind=7) && al else if ma=true then decide (kind=8) && al else on):=⟨_,rfl⟩
 rw [show memO ⟨nm,ty,nu,op,re,ma⟩ (VT.kd (.mk kind neg V bits text aL nL cL kids aK nK cK keys)) (okT M n (.mk kind neg V bits text aL nL cL kids aK nK cK keys))=R from by rw [hR,← hal,← hon];rfl]
 have HRR:=Lib.hid hR
 have C2:=Lib.hid fun (B3 B4:Nat) wx (hx:Below w.heap.size w wx) (h3:wx.cell? ⟨B3,0,none⟩=some (.slice a n c)) (h4:wx.cell? ⟨B4,1,none⟩=some (.string ty))=>(by
  have h:=ContV2_any 66 (enters_of Tryd.func66 z0a rfl) B3 B4 (fun i => !(okT M n (kids i)).one ty) aL nL cL kids wx hcL hlL (by have:=VT.In.below hx _ HIN.out;exact this.2.1) (fun i hi=>VT.In.below hx _ (hkk i hi)) (fun i hi w' hb=>memC_any M a n c (kids i) (hK i hi) ty hA B3 B4 w' (keep_cell hb h3) (keep_cell hb h4) (hL.below (below_trans hx hb)) (VT.In.below (below_trans hx hb) _ (hkk i hi)) (HR.out.2.2 i hi) (hT.below (below_trans hx hb)))
  rwa [show anyN (fun i => !(okT M n (kids i)).one ty) nL = !al from by rw [← hal,okT_all,Bool.not_not]] at h:Calls Tryd.prog 57 #[.slice aL nL cL,.func (.func 66) #[] #[.pointer (some ⟨B3,0,none⟩),.pointer (some ⟨B4,0,none⟩)]] wx fun e w'=>e=.returned (.bool (!al))∧Below wx.heap.size wx w')
 have C1:=Lib.hid fun (B3 B4:Nat) wx (hx:Below w.heap.size w wx) (h3:wx.cell? ⟨B3,0,none⟩=some (.slice a n c)) (h4:wx.cell? ⟨B4,1,none⟩=some (.string ty))=>(by
  have h:=memC_any M a n c _ hI ty hA B3 B4 wx h3 h4 (hL.below hx) (VT.In.below hx _ HIN.out) hr (hT.below hx)
  rwa [hon] at h:Calls Tryd.prog 66 #[VT.agg (.mk kind neg V bits text aL nL cL kids aK nK cK keys),.pointer (some ⟨B3,0,none⟩),.pointer (some ⟨B4,0,none⟩)] wx fun e w'=>e=.returned (.bool (!on))∧Below wx.heap.size wx w')
 unfold PF.agg VT.agg VT.cells
 unfold VT.agg VT.cells at C1
 clear hK hI hL hT hA hr ho hLL hkk hal hon hR hcL hlL
 go_enter Tryd.func40,Tryd.ntmps40
 go_upto_region 2 with fail
 have V0:=Lib.hid (vbx_new ((w.alloc (.cells #[.slice a n c] 25)).alloc (.cells #[.string nm,.string ty,.int .i64 nu,.bool op,.bool re,.bool ma] 70)) 35 kind neg V bits text aL nL cL aK nK cK)
 have F0:=Lib.hid ((fbx_new (w.alloc (.cells #[.slice a n c] 25)) nm ty nu op re ma 70).below (below_alloc (Below.refl _ _) (.cells #[.int .i64 kind,.bool neg,.int .u64 (lm V 0:Nat),.int .u64 (lm V 1:Nat),.int .u64 (lm V 2:Nat),.int .u64 (lm V 3:Nat),.int .u64 (bits:Nat),.string text,.slice aL nL cL,.slice aK nK cK] 35)))
 have L0:(((w.alloc (.cells #[.slice a n c] 25)).alloc (.cells #[.string nm,.string ty,.int .i64 nu,.bool op,.bool re,.bool ma] 70)).alloc (.cells #[.int .i64 kind,.bool neg,.int .u64 (lm V 0:Nat),.int .u64 (lm V 1:Nat),.int .u64 (lm V 2:Nat),.int .u64 (lm V 3:Nat),.int .u64 (bits:Nat),.string text,.slice aL nL cL,.slice aK nK cK] 35)).cell? ⟨w.heap.size,0,none⟩=some (.slice a n c):=by simp [go_sem]
 have hW0:Below w.heap.size w (((w.alloc (.cells #[.slice a n c] 25)).alloc (.cells #[.string nm,.string ty,.int .i64 nu,.bool op,.bool re,.bool ma] 70)).alloc (.cells #[.int .i64 kind,.bool neg,.int .u64 (lm V 0:Nat),.int .u64 (lm V 1:Nat),.int .u64 (lm V 2:Nat),.int .u64 (lm V 3:Nat),.int .u64 (bits:Nat),.string text,.slice aL nL cL,.slice aK nK cK] 35)):=zb2
 rw [show ((w.alloc (.cells #[.slice a n c] 25)).alloc (.cells #[.string nm,.string ty,.int .i64 nu,.bool op,.bool re,.bool ma] 70)).heap.size=w.heap.size+1+1 from by simp] at V0
 rw [show (w.alloc (.cells #[.slice a n c] 25)).heap.size=w.heap.size+1 from by simp] at F0
 generalize (((w.alloc (.cells #[.slice a n c] 25)).alloc (.cells #[.string nm,.string ty,.int .i64 nu,.bool op,.bool re,.bool ma] 70)).alloc (.cells #[.int .i64 kind,.bool neg,.int .u64 (lm V 0:Nat),.int .u64 (lm V 1:Nat),.int .u64 (lm V 2:Nat),.int .u64 (lm V 3:Nat),.int .u64 (bits:Nat),.string text,.slice aL nL cL,.slice aK nK cK] 35))=w0 at *
 obtain ⟨B3,hB3⟩:∃ B,B=w.heap.size:=⟨_,rfl⟩
 rw [← hB3] at L0 F0 V0 ⊢
 obtain ⟨B4,hB4⟩:∃ B,B=B3+1:=⟨_,rfl⟩
 rw [← hB4] at F0 V0 ⊢
 obtain ⟨B5,hB5⟩:∃ B,B=B4+1:=⟨_,rfl⟩
 rw [← hB5] at V0 ⊢
 clear hB3 hB4 hB5
 have D2:=Lib.hid (C2.out B3 B4 w0 hW0 L0 F0.out.all.2.1)
 have D1:=Lib.hid (C1.out B3 B4 w0 hW0 L0 F0.out.all.2.1)
 obtain ⟨_,_,_,_,_,_,_,_,_,_⟩:=V0.out.all
 obtain ⟨_,_,_,_,_,_⟩:=F0.out.all
 cases re with
 | true=>
  by_cases c:kind=7
  ·have c1:(kind == 7)=true:=beq_iff_eq.2 c
   obtain rfl:R=al:=by rw [HRR.out,decide_eq_true c];rfl
   clear c
   exact z17zk1
  ·have c1:(kind == 7)=false:=beq_false_of_ne c
   exact z17zk2
 | false=>
  cases ma with
  | true=>
   by_cases c:kind=8
   ·have c1:(kind == 8)=true:=beq_iff_eq.2 c
    obtain rfl:R=al:=by rw [HRR.out,decide_eq_true c];rfl
    clear c
    exact z17zk1
   ·have c1:(kind == 8)=false:=beq_false_of_ne c
    exact z17zk2
  | false=>
   obtain rfl:R=on:=by rw [HRR.out];rfl
   exact z17zk1
theorem is_mk (M:Nat→PM) (a:Option Addr) (n c:Nat) (kind:Int) (neg:Bool) (V bits:Nat) (text:ByteArray) (aL:Option Addr) (nL cL:Nat) (kids:Nat→VT) (aK:Option Addr) (nK cK:Nat) (keys:Nat→ByteArray) (hM:PMsg M a n c (.mk kind neg V bits text aL nL cL kids aK nK cK keys)):PIs M a n c (.mk kind neg V bits text aL nL cL kids aK nK cK keys):=by
 intro s w hA hL hin hr hT
 have HR:=Lib.hid (right_parts hr)
 have HIN:=Lib.hid hin
 have HL:=Lib.hid hL
 have q1:=hL.l
 have q2:=hL.lc
 simp only [maxLen] at q2
 obtain ⟨ho,-⟩:=hin
 have hV:=ho.v
 obtain ⟨x2,hx2⟩:∃ x,scalarB s=x:=⟨_,rfl⟩
 obtain ⟨R,hR⟩:∃ R,R=(okT M n (.mk kind neg V bits text aL nL cL kids aK nK cK keys)).one s:=⟨_,rfl⟩
 rw [← hR]
 rw [okT_one,hx2] at hR
 have C1:=Lib.hid fun wx=>PScalar_any s wx
 rw [hx2] at C1
 cases x2 with
 | true=>
  rw [if_pos rfl] at hR
  have C2:=Lib.hid fun wx (hx:Below w.heap.size w wx)=>PSc_any s hx2 kind neg V bits text aL nL cL aK nK cK hV HR.out.1 wx (hT.below hx)
  rw [← hR] at C2
  unfold VT.agg VT.cells
  clear hM hA hr hT ho hV hx2 hR hL
  go_enter Tryd.func67,Tryd.ntmps67
  repeat any_goals (first|(go_at_call 31;with_reducible refine (C1.out _).mono ?_;rintro e w1 ⟨rfl,rfl⟩)|(go_at_call 74;with_reducible refine (C2.out _ zb2).mono ?_;rintro e w2 ⟨rfl,hb2⟩)|go_skip|go_guarded|go_step|go_upon|(dsimp only []))
  exact bodyPost_ret (v:=.bool R) (by simp [results,Tryd.results67,go_sem]) rfl ⟨rfl,zb2⟩
 | false=>
  obtain ⟨z,hz⟩:∃ z,placeM M n s=z:=⟨_,rfl⟩
  have hz0:0≤z:=by
   rcases hA with h|h
   ·rw [hx2] at h;cases h
   ·omega
  have hzn:z < n:=by rw [← hz];exact placeM_lt
  obtain ⟨k,hk⟩:∃ k:Nat,z=k:=⟨z.toNat,by omega⟩
  subst hk
  have hkn:k < n:=by omega
  rw [if_neg Bool.false_ne_true,hz,decide_eq_false z0b,Bool.not_false,Bool.true_and,show ((k:Int)).toNat=k from rfl] at hR
  have C3:=Lib.hid fun wx (hx:Below w.heap.size w wx)=>PPlace_any a n c M s wx (HL.out.below hx)
  have C4:=Lib.hid fun wx (hx:Below w.heap.size w wx)=>hM k wx hkn (HL.out.below hx) (VT.In.below hx _ HIN.out) hr (hT.below hx)
  rw [hz] at C3
  rw [← hR] at C4
  unfold VT.agg VT.cells at C4 ⊢
  unfold PM.agg at C4
  obtain ⟨b,off,e0,hbl,hm4,-⟩:=m_lit HL.out hkn (Below.refl _ _)
  subst e0
  have HM4:=Lib.hid (show ML w b (off+k * 4) (M k) from ⟨⟨hm4.all.1,hm4.all.2.1,hm4.all.2.2.1,hm4.all.2.2.2,trivial⟩⟩)
  have i1:(k:Int) < (n:Int):=by omega
  have i2:(0:Int)≤(k:Int):=by omega
  have i5:(k:Int).toNat=k:=rfl
  clear hM hA hr hT ho hV hx2 hR hL hz hm4
  go_enter Tryd.func67,Tryd.ntmps67
  go_upto_region 3 with (go_at_call 31;with_reducible refine (C1.out _).mono ?_;rintro e w1 ⟨rfl,rfl⟩)
  have V0:=Lib.hid (vbx_new w 35 kind neg V bits text aL nL cL aK nK cK)
  have M0:=Lib.hid (HM4.out.below (below_alloc (Below.refl w.heap.size w) (.cells #[.int .i64 kind,.bool neg,.int .u64 (lm V 0:Nat),.int .u64 (lm V 1:Nat),.int .u64 (lm V 2:Nat),.int .u64 (lm V 3:Nat),.int .u64 (bits:Nat),.string text,.slice aL nL cL,.slice aK nK cK] 35)))
  have hW0:=below_alloc (Below.refl w.heap.size w) (.cells #[.int .i64 kind,.bool neg,.int .u64 (lm V 0:Nat),.int .u64 (lm V 1:Nat),.int .u64 (lm V 2:Nat),.int .u64 (lm V 3:Nat),.int .u64 (bits:Nat),.string text,.slice aL nL cL,.slice aK nK cK] 35)
  generalize w.alloc (.cells #[.int .i64 kind,.bool neg,.int .u64 (lm V 0:Nat),.int .u64 (lm V 1:Nat),.int .u64 (lm V 2:Nat),.int .u64 (lm V 3:Nat),.int .u64 (bits:Nat),.string text,.slice aL nL cL,.slice aK nK cK] 35)=w0 at *
  obtain ⟨B0,hB0⟩:∃ B,B=w.heap.size:=⟨_,rfl⟩
  rw [← hB0] at V0 ⊢
  have hB0':=Lib.hid hB0
  clear hB0
  (obtain ⟨C_,hC⟩:∃ C:World→Prop,C=fun w'=>Below (w0).heap.size (w0) w':=⟨_,rfl⟩;have HC:=Lib.hid hC;have hne:∀ p:Prop,(∀ w1:World,C_ w1→p)=p:=fun p=>propext ⟨fun h=>h (w0) z0i,fun h _ _=>h⟩;clear hC;refine wp_region_quiet_great (C:=C_) z0a z0a z0d ?_)
  (go_big_quiet_want;go_big_quiet_op;go_big_quiet_on)
  (go_big_quiet_want;go_big_quiet_op;go_big_quiet_on)
  (go_big_quiet_want;go_big_quiet_op;go_big_quiet_on)
  (go_big_quiet_want;go_big_quiet_op;go_big_quiet_on)
  (go_big_quiet_want;go_big_quiet_op;refine ⟨.int .i64 k,fun w1 hw1=>?_,?_⟩;(rw [HC.out] at hw1 ⊢;with_reducible refine (C3.out _ (below_trans hW0 hw1)).mono ?_;rintro e w4 ⟨rfl,hb4⟩;exact ⟨rfl,below_trans hw1 hb4⟩);go_big_quiet_on)
  (go_big_quiet_want;go_big_quiet_op;go_big_quiet_on)
  (go_big_quiet_want;refine ⟨.agg #[.string (M k).name,.slice (M k).aF (M k).nF (M k).cF,.slice (M k).aN (M k).nN (M k).cN,.slice (M k).aS (M k).nS (M k).cS],fun w1 hw1=>?_,?_⟩;(rw [HC.out] at hw1;obtain ⟨_,_,_,_,_⟩:=(M0.out.below hw1).all;simp [Oper.quietAt,go_sem, *]);refine z17zs1 ?_;go_big_quiet_on)
  (go_big_quiet_want;refine ⟨.agg #[.int .i64 kind,.bool neg,.int .u64 (lm V 0:Nat),.int .u64 (lm V 1:Nat),.int .u64 (lm V 2:Nat),.int .u64 (lm V 3:Nat),.int .u64 (bits:Nat),.string text,.slice aL nL cL,.slice aK nK cK],fun w1 hw1=>?_,?_⟩;(rw [HC.out] at hw1;obtain ⟨_,_,_,_,_⟩:=(V0.out.below hw1).all;simp [Oper.quietAt,go_sem, *]);refine z17zs1 ?_;go_big_quiet_on)
  (go_big_quiet_want;go_big_quiet_op;refine ⟨.bool R,fun w1 hw1=>?_,?_⟩;(rw [HC.out] at hw1 ⊢;with_reducible refine (C4.out _ (below_trans hW0 hw1)).mono ?_;rintro e w4 ⟨rfl,hb4⟩;exact ⟨rfl,below_trans hw1 hb4⟩);go_big_quiet_on)
  (go_big_quiet_want;go_big_quiet_op;go_big_quiet_on)
  (refine wpQuiet_nil ?_;intro w2 hw2;rw [HC.out] at hw2)
  repeat any_goals (first|go_skip|go_guarded|go_step|go_upon|(simp only [];done))
  exact bodyPost_ret (v:=.bool R) (by simp [results,Tryd.results67,go_sem]) rfl ⟨rfl,below_trans hW0 hw2⟩
theorem msg_mk (M:Nat→PM) (a:Option Addr) (n c:Nat) (hTy:Types M n) (kind:Int) (neg:Bool) (V bits:Nat) (text:ByteArray) (aL:Option Addr) (nL cL:Nat) (kids:Nat→VT) (aK:Option Addr) (nK cK:Nat) (keys:Nat→ByteArray) (hK:∀ i,i < nL→PMem M a n c (kids i)):PMsg M a n c (.mk kind neg V bits text aL nL cL kids aK nK cK keys):=by
 intro k w hk hL hin hr hT
 have HR:=Lib.hid (right_parts hr)
 have HIN:=Lib.hid hin
 have HL:=Lib.hid hL
 obtain ⟨ho,hLL,hkk,hKK⟩:=hin
 have q1:=ho.l
 have q2:=ho.lc
 have q3:=ho.n
 have q4:=ho.nc
 have HKK:=Lib.hid hKK
 have HLL:=Lib.hid hLL
 have HKI:=Lib.hid hkk
 have HIm:=Lib.hid (hL.k k hk)
 obtain ⟨m,hm⟩:∃ m,M k=m:=⟨_,rfl⟩
 obtain ⟨R,hR⟩:∃ R,R=(okT M n (.mk kind neg V bits text aL nL cL kids aK nK cK keys)).msg m:=⟨_,rfl⟩
 rw [hm] at HIm ⊢
 rw [← hR]
 rw [okT_msg] at hR
 have HRR:=Lib.hid hR
 have HMK:=Lib.hid hm
 have HK2:=Lib.hid fun (j:Nat) (hj:j < nL) (f:PF) (hA:Asks M n f.type) wx (hx:Below w.heap.size w wx)=>hK j hj f wx hA (HL.out.below hx) (VT.In.below hx _ (HKI.out j hj)) (HR.out.2.2 j hj) (hT.below hx)
 have HFA:=Lib.hid fun (s:ByteArray) (hz:0≤placeF m s)=>(show Asks M n (fldV m s).type from by rw [← hm] at hz ⊢;exact fld_asks hTy hk hz)
 unfold PM.agg
 unfold VT.agg VT.cells
 simp only [maxLen] at q2 q4
 clear hL ho hLL hkk hKK hr hT hm hR hK hTy
 go_enter Tryd.func21,Tryd.ntmps21
 go_upto_region 1 with fail
 have M0:=Lib.hid ((mbx_new w m 55).below (below_alloc (Below.refl _ _) (.cells #[.int .i64 kind,.bool neg,.int .u64 (lm V 0:Nat),.int .u64 (lm V 1:Nat),.int .u64 (lm V 2:Nat),.int .u64 (lm V 3:Nat),.int .u64 (bits:Nat),.string text,.slice aL nL cL,.slice aK nK cK] 35)))
 have V0:=Lib.hid (vbx_new (w.alloc (.cells #[.string m.name,.slice m.aF m.nF m.cF,.slice m.aN m.nN m.cN,.slice m.aS m.nS m.cS] 55)) 35 kind neg V bits text aL nL cL aK nK cK)
 rw [show (w.alloc (.cells #[.string m.name,.slice m.aF m.nF m.cF,.slice m.aN m.nN m.cN,.slice m.aS m.nS m.cS] 55)).heap.size=w.heap.size+1 from by simp] at V0
 have hW0:=below_alloc (below_alloc (Below.refl w.heap.size w) (.cells #[.string m.name,.slice m.aF m.nF m.cF,.slice m.aN m.nN m.cN,.slice m.aS m.nS m.cS] 55)) (.cells #[.int .i64 kind,.bool neg,.int .u64 (lm V 0:Nat),.int .u64 (lm V 1:Nat),.int .u64 (lm V 2:Nat),.int .u64 (lm V 3:Nat),.int .u64 (bits:Nat),.string text,.slice aL nL cL,.slice aK nK cK] 35)
 generalize (w.alloc (.cells #[.string m.name,.slice m.aF m.nF m.cF,.slice m.aN m.nN m.cN,.slice m.aS m.nS m.cS] 55)).alloc (.cells #[.int .i64 kind,.bool neg,.int .u64 (lm V 0:Nat),.int .u64 (lm V 1:Nat),.int .u64 (lm V 2:Nat),.int .u64 (lm V 3:Nat),.int .u64 (bits:Nat),.string text,.slice aL nL cL,.slice aK nK cK] 35)=w0 at *
 obtain ⟨B0,hB0⟩:∃ B,B=w.heap.size:=⟨_,rfl⟩
 rw [← hB0] at M0 V0 ⊢
 obtain ⟨B1,hB1⟩:∃ B,B=B0+1:=⟨_,rfl⟩
 rw [← hB1] at V0 ⊢
 clear hB0 hB1
 obtain ⟨_,_,_,_,_,_,_,_,_,_⟩:=V0.out.all
 by_cases c8:kind=8
 case neg=>
  obtain rfl:R=false:=by rw [HRR.out,decide_eq_false c8];rfl
  have c1:(kind == 8)=false:=beq_false_of_ne c8
  repeat any_goals (first|go_skip|go_guarded|go_step|go_upon|(simp only [];done))
  exact bodyPost_ret (v:=.bool false) (by simp [results,Tryd.results21,go_sem]) rfl ⟨rfl,hW0⟩
 case pos=>
  obtain rfl:nK=nL:=HR.out.2.1 c8
  have HR2:=Lib.hid (show R = !anyN (fun i=>decide (placeF m (keys i) < 0) || !memO (fldV m (keys i)) (kids i).kd (okT M n (kids i))) nK from by rw [HRR.out,decide_eq_true c8,Bool.true_and])
  subst c8
  clear HRR
  repeat any_goals (first|go_skip|go_guarded|go_step|go_upon|(simp only [];done))
  go_loopw [17] (fun i wr=>∃ j:Nat,j≤nK∧i=.int .i64 j∧anyN (fun i=>decide (placeF m (keys i) < 0) || !memO (fldV m (keys i)) (kids i).kd (okT M n (kids i))) j=false∧Below w0.heap.size w0 wr) (fun i _=>nK - (intOf i).toNat)
  case atStart=>exact ⟨0,Nat.zero_le _,rfl,rfl,Below.refl _ _⟩
  case round=>
   obtain ⟨j,hj,rfl,hA,hW⟩:=hrel
   have H1:=Lib.hid hA
   have Mr:=Lib.hid (M0.out.below hW)
   have Vr:=Lib.hid (V0.out.below hW)
   have hWr:=below_trans hW0 hW
   clear hA
   obtain ⟨_,_,_,_⟩:=Mr.out.all
   obtain ⟨_,_,_,_,_,_,_,_,_,_⟩:=Vr.out.all
   by_cases hjn:j < nK
   ·obtain ⟨kb,ko,rfl,hkb,hkc,hks⟩:=key_lit HKK.out hjn hWr
    obtain ⟨lb,lo,kind',neg',V',bits',text',aL',nL',cL',kids',aK',nK',cK',keys',rfl,hlb,hkid,hcells,hkin⟩:=kid_lit HLL.out HKI.out hjn hWr
    have KB:=Lib.hid (show KBx wr lb (lo+j * 10) kind' neg' V' bits' text' aL' nL' cL' aK' nK' cK' from ⟨hcells⟩)
    obtain ⟨s,hs⟩:∃ s,keys j=s:=⟨_,rfl⟩
    obtain ⟨z,hz⟩:∃ z,placeF m s=z:=⟨_,rfl⟩
    obtain ⟨f,hf⟩:∃ f,fldV m s=f:=⟨_,rfl⟩
    obtain ⟨x,hx⟩:∃ x,memO f (kids j).kd (okT M n (kids j))=x:=⟨_,rfl⟩
    have HB:=Lib.hid (show (fun i=>decide (placeF m (keys i) < 0) || !memO (fldV m (keys i)) (kids i).kd (okT M n (kids i))) j=(decide (z < 0) || !x) from by dsimp only;rw [hs,hz,hf,hx])
    have C1:=Lib.hid fun wx (hx:Below w.heap.size w wx)=>PField_any m s wx (HIm.out.below hx)
    rw [hz,hf] at C1
    have C2:=Lib.hid fun (h0:0≤z) wx (hxx:Below w.heap.size w wx)=>HK2.out j hjn f (by have:=HFA.out s z0b;rwa [hf] at this) wx hxx
    rw [hx,hkid] at C2
    unfold VT.agg VT.cells at C2
    rw [hs] at hkc
    obtain ⟨nm,ty,nu,op,re,ma⟩:=f
    unfold PF.agg at C1 C2
    unfold PM.agg at C1
    have i1:(j:Int) < (nK:Int):=by omega
    have i2:(0:Int)≤(j:Int):=by omega
    have i5:(j:Int).toNat=j:=rfl
    clear hs hz hf hx hkid hcells hkin hks
    go_upto_region 7 with (go_at_call 39;with_reducible refine (C1.out _ hWr).mono ?_;rintro e w1 ⟨rfl,hb1⟩)
    have F1:=Lib.hid (fbx_new w1 nm ty nu op re ma 70)
    have hV1:=below_alloc hb1 (.cells #[.string nm,.string ty,.int .i64 nu,.bool op,.bool re,.bool ma] 70)
    generalize w1.alloc (.cells #[.string nm,.string ty,.int .i64 nu,.bool op,.bool re,.bool ma] 70)=w2 at *
    obtain ⟨B2,hB2⟩:∃ B,B=w1.heap.size:=⟨_,rfl⟩
    rw [← hB2] at F1 ⊢
    clear hB2 hb1
    have V2:=Lib.hid (Vr.out.below hV1)
    have K2:=Lib.hid (KB.out.below hV1)
    have hW2:=below_trans hWr hV1
    by_cases cz:0≤z
    ·have e1:decide (0≤z)=true:=decide_eq_true cz
     rw [e1]
     have HB2:=Lib.hid (show (fun i=>decide (placeF m (keys i) < 0) || !memO (fldV m (keys i)) (kids i).kd (okT M n (kids i))) j = !x from HB.out.trans (by rw [decide_eq_false z0b,Bool.false_or]))
     clear e1
     cases x with
     | true=>
      (obtain ⟨C_,hC⟩:∃ C:World→Prop,C=fun w'=>Below (w2).heap.size (w2) w':=⟨_,rfl⟩;have HC:=Lib.hid hC;have hne:∀ p:Prop,(∀ w1:World,C_ w1→p)=p:=fun p=>propext ⟨fun h=>h (w2) z0i,fun h _ _=>h⟩;clear hC;refine wp_region_quiet_great (C:=C_) z0a z0a z0d ?_)
      (go_big_quiet_want;go_big_quiet_op;go_big_quiet_on)
      (go_big_quiet_want;go_big_quiet_op;go_big_quiet_on)
      (go_big_quiet_want;go_big_quiet_op;go_big_quiet_on)
      (go_big_quiet_want;go_big_quiet_op;go_big_quiet_on)
      (go_big_quiet_want;refine ⟨.agg #[.string nm,.string ty,.int .i64 nu,.bool op,.bool re,.bool ma],fun w1 hw1=>?_,?_⟩;(rw [HC.out] at hw1;obtain ⟨_,_,_,_,_⟩:=(F1.out.below hw1).all;simp [Oper.quietAt,go_sem, *]);refine z17zs1 ?_;go_big_quiet_on)
      (go_big_quiet_want;go_big_quiet_op;go_big_quiet_on)
      (go_big_quiet_want;refine ⟨.slice (some ⟨lb,lo,none⟩) nK cL,fun w1 hw1=>?_,?_⟩;(rw [HC.out] at hw1;obtain ⟨_,_,_,_,_⟩:=(V2.out.below hw1).all;simp [Oper.quietAt,go_sem, *]);refine z17zs1 ?_;go_big_quiet_on)
      (go_big_quiet_want;go_big_quiet_op;go_big_quiet_on)
      (go_big_quiet_want;go_big_quiet_op;go_big_quiet_on)
      (go_big_quiet_want;refine ⟨.agg #[.int .i64 kind',.bool neg',.int .u64 (lm V' 0:Nat),.int .u64 (lm V' 1:Nat),.int .u64 (lm V' 2:Nat),.int .u64 (lm V' 3:Nat),.int .u64 (bits':Nat),.string text',.slice aL' nL' cL',.slice aK' nK' cK'],fun w1 hw1=>?_,?_⟩;(rw [HC.out] at hw1;obtain ⟨_,_,_,_,_⟩:=(K2.out.below hw1).all;simp [Oper.quietAt,go_sem, *]);refine z17zs1 ?_;go_big_quiet_on)
      (go_big_quiet_want;go_big_quiet_op;refine ⟨.bool true,fun w1 hw1=>?_,?_⟩;(rw [HC.out] at hw1 ⊢;with_reducible refine (C2.out cz _ (below_trans hW2 hw1)).mono ?_;rintro e w4 ⟨rfl,hb4⟩;exact ⟨rfl,below_trans hw1 hb4⟩);go_big_quiet_on)
      (go_big_quiet_want;go_big_quiet_op;go_big_quiet_on)
      (go_big_quiet_want;go_big_quiet_op;go_big_quiet_on)
      (refine wpQuiet_nil ?_;intro w2 hw2;rw [HC.out] at hw2)
      repeat any_goals (first|go_skip|go_guarded|go_step|go_upon|(simp only [];done))
      go_roundw
      case rel=>exact ⟨j+1,by omega,rfl,by show (anyN _ j || _)=false;rw [H1.out];exact HB2.out,below_trans (below_trans hW hV1) hw2⟩
      case measure=>simp [intOf];omega
     | false=>
      (obtain ⟨C_,hC⟩:∃ C:World→Prop,C=fun w'=>Below (w2).heap.size (w2) w':=⟨_,rfl⟩;have HC:=Lib.hid hC;have hne:∀ p:Prop,(∀ w1:World,C_ w1→p)=p:=fun p=>propext ⟨fun h=>h (w2) z0i,fun h _ _=>h⟩;clear hC;refine wp_region_quiet_great (C:=C_) z0a z0a z0d ?_)
      (go_big_quiet_want;go_big_quiet_op;go_big_quiet_on)
      (go_big_quiet_want;go_big_quiet_op;go_big_quiet_on)
      (go_big_quiet_want;go_big_quiet_op;go_big_quiet_on)
      (go_big_quiet_want;go_big_quiet_op;go_big_quiet_on)
      (go_big_quiet_want;refine ⟨.agg #[.string nm,.string ty,.int .i64 nu,.bool op,.bool re,.bool ma],fun w1 hw1=>?_,?_⟩;(rw [HC.out] at hw1;obtain ⟨_,_,_,_,_⟩:=(F1.out.below hw1).all;simp [Oper.quietAt,go_sem, *]);refine z17zs1 ?_;go_big_quiet_on)
      (go_big_quiet_want;go_big_quiet_op;go_big_quiet_on)
      (go_big_quiet_want;refine ⟨.slice (some ⟨lb,lo,none⟩) nK cL,fun w1 hw1=>?_,?_⟩;(rw [HC.out] at hw1;obtain ⟨_,_,_,_,_⟩:=(V2.out.below hw1).all;simp [Oper.quietAt,go_sem, *]);refine z17zs1 ?_;go_big_quiet_on)
      (go_big_quiet_want;go_big_quiet_op;go_big_quiet_on)
      (go_big_quiet_want;go_big_quiet_op;go_big_quiet_on)
      (go_big_quiet_want;refine ⟨.agg #[.int .i64 kind',.bool neg',.int .u64 (lm V' 0:Nat),.int .u64 (lm V' 1:Nat),.int .u64 (lm V' 2:Nat),.int .u64 (lm V' 3:Nat),.int .u64 (bits':Nat),.string text',.slice aL' nL' cL',.slice aK' nK' cK'],fun w1 hw1=>?_,?_⟩;(rw [HC.out] at hw1;obtain ⟨_,_,_,_,_⟩:=(K2.out.below hw1).all;simp [Oper.quietAt,go_sem, *]);refine z17zs1 ?_;go_big_quiet_on)
      (go_big_quiet_want;go_big_quiet_op;refine ⟨.bool false,fun w1 hw1=>?_,?_⟩;(rw [HC.out] at hw1 ⊢;with_reducible refine (C2.out cz _ (below_trans hW2 hw1)).mono ?_;rintro e w4 ⟨rfl,hb4⟩;exact ⟨rfl,below_trans hw1 hb4⟩);go_big_quiet_on)
      (go_big_quiet_want;go_big_quiet_op;go_big_quiet_on)
      (go_big_quiet_want;go_big_quiet_op;go_big_quiet_on)
      (refine wpQuiet_nil ?_;intro w2 hw2;rw [HC.out] at hw2)
      obtain rfl:R=false:=by rw [HR2.out,anyN_of (p:=fun i=>decide (placeF m (keys i) < 0) || !memO (fldV m (keys i)) (kids i).kd (okT M n (kids i))) HB2.out hjn];rfl
      exact z17zk3
    ·have e1:decide (0≤z)=false:=decide_eq_false cz
     rw [e1]
     clear e1
     (obtain ⟨C_,hC⟩:∃ C:World→Prop,C=fun w'=>Below (w2).heap.size (w2) w':=⟨_,rfl⟩;have HC:=Lib.hid hC;have hne:∀ p:Prop,(∀ w1:World,C_ w1→p)=p:=fun p=>propext ⟨fun h=>h (w2) z0i,fun h _ _=>h⟩;clear hC;refine wp_region_quiet_great (C:=C_) z0a z0a z0d ?_)
     (go_big_quiet_want;go_big_quiet_op;go_big_quiet_on)
     (go_big_quiet_want;go_big_quiet_op;go_big_quiet_on)
     (go_big_quiet_want;go_big_quiet_op;go_big_quiet_on)
     go_big_quiet_skip
     go_big_quiet_skip
     go_big_quiet_skip
     go_big_quiet_skip
     go_big_quiet_skip
     go_big_quiet_skip
     go_big_quiet_skip
     go_big_quiet_skip
     go_big_quiet_skip
     (go_big_quiet_want;go_big_quiet_op;go_big_quiet_on)
     (refine wpQuiet_nil ?_;intro w2 hw2;rw [HC.out] at hw2)
     obtain rfl:R=false:=by rw [HR2.out,anyN_of (p:=fun i=>decide (placeF m (keys i) < 0) || !memO (fldV m (keys i)) (kids i).kd (okT M n (kids i))) (HB.out.trans (by rw [decide_eq_true z0b];rfl)) hjn];rfl
     exact z17zk3
   ·obtain rfl:j=nK:=by omega
    have i1:¬ (j:Int) < (j:Int):=by omega
    obtain rfl:R=true:=by rw [HR2.out,H1.out];rfl
    repeat any_goals (first|go_skip|go_guarded|go_step|go_upon|(simp only [];done))
    exact bodyPost_ret (v:=.bool true) (by simp [results,Tryd.results21,go_sem]) rfl ⟨rfl,hWr⟩
theorem pvalid_all (M:Nat→PM) (a:Option Addr) (n c:Nat) (hTy:Types M n):∀ T:VT,PIs M a n c T∧PMem M a n c T∧PMsg M a n c T:=by
 intro T
 induction T with
 | nil=>exact ⟨fun _ _ _ _ h=>h.elim,fun _ _ _ _ h=>h.elim,fun _ _ _ _ h=>h.elim⟩
 | mk kind neg V bits text aL nL cL kids aK nK cK keys ih=>
  have hm:=msg_mk M a n c hTy kind neg V bits text aL nL cL kids aK nK cK keys (fun i _=>(ih i).2.1)
  have hi:=is_mk M a n c kind neg V bits text aL nL cL kids aK nK cK keys hm
  exact ⟨hi,member_mk M a n c kind neg V bits text aL nL cL kids aK nK cK keys (fun i _=>(ih i).1) hi,hm⟩
def VT.cnt:VT→Nat
 | .nil=>0
 | .mk _ _ _ _ _ _ nL _ _ _ _ _ _=>nL
def VT.sub:VT→Nat→VT
 | .nil,_=>.nil
 | .mk _ _ _ _ _ _ _ _ kids _ _ _ _,i=>kids i
structure KC5 (w:World) (b o:Nat) (s:ByteArray):Prop where
 all:w.cell? ⟨b,o,none⟩=some (.string s)∧True∧True∧True∧True
theorem KC5.below {w w1:World} {b o:Nat} {s:ByteArray} (h:KC5 w b o s) (hb:Below w.heap.size w w1):KC5 w1 b o s:=⟨keep_cell hb h.all.1,trivial,trivial,trivial,trivial⟩
end Go.Proofs.YtfondldmmcmloaaDoor
