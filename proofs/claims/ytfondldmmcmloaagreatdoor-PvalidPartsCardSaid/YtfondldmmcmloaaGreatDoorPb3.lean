/- VRise, VCf, ShlH, Shl0. -/
import Derived.Test.YtfondldmmcmloaaGreatDoorPb2
set_option maxRecDepth 1000000
set_option maxHeartbeats 8000000
namespace Go.Proofs.YtfondldmmcmloaaGreatDoor
open Go Go.RowKit
theorem z3zk1 {p:Prop} (h:p:=by
 rcases hlen with hz|hlen
 ·obtain ⟨z0,z1,z2,z3⟩:=zero4 hz
  clear hz
  go_wp2_with fail
  all_goals (go_meet;case rel=>exact ⟨by simp [*],zb1,(Cells4.new _ _ _ _ _ _).alloc _,Cells4.new1 _ _ _ _ _ _ _⟩)
 ·go_wp2_with (first|(go_at_call 119;refine (Len_any a0 a1 a2 a3 h0 h1 h2 h3 _).mono ?_;rintro e w1 ⟨rfl,hb1⟩))
  all_goals (go_meet;case rel=>first|exact ⟨by simp;omega,zb1,(Cells4.new _ _ _ _ _ _).alloc _,Cells4.new1 _ _ _ _ _ _ _⟩|exact ⟨by simp;omega,zb1,((Cells4.new _ _ _ _ _ _).alloc _).below hb1,(Cells4.new1 _ _ _ _ _ _ _).below hb1⟩)):p:=h
theorem z3zk2 {p:Prop} (h:p:=by
 repeat any_goals (first|(with_reducible refine calls_at f (HC.out _ zb2) ?_;rintro e w1 ⟨rfl,hb1⟩)|go_skip|go_guarded|go_step|go_upon|(dsimp only []))
 go_roundw
 case rel=>exact ⟨k+1,by omega,rfl,by simp only [fstN];rw [HA1.out,← HX.out];simp,zb2⟩
 case measure=>simp [intOf];omega):p:=h
end Go.Proofs.YtfondldmmcmloaaGreatDoor
namespace Go.Proofs.YtfondldmmcmloaaGreatDoor
open Go.RowKit
abbrev U8T (w:World):Prop:=Lib.Utf8Tabs 0 1 w
theorem PValid_any (s:ByteArray) (w:World) (hs:s.size≤maxLen) (hT:U8T w) :
  Calls Tryz.prog 79 #[.string s] w fun e w'=>e=.returned (.bool (validS s))∧Below w.heap.size w w':=by
 have C:=Lib.hid (Tryz.utf8_ValidString s w (by simp only [maxLen] at hs;omega) hT)
 have e:=Lib.hid (show validS s=Lib.validD s.data.toList from rfl)
 clear hT
 generalize validS s=x at *
 generalize Lib.validD s.data.toList=y at *
 obtain rfl:x=y:=e.out
 clear e
 go_enter Tryz.func79,Tryz.ntmps79
 repeat any_goals (first|(go_at_call 93;refine (C.out).mono ?_;rintro e w1 ⟨rfl,hb1⟩)|go_skip|go_guarded|go_step|go_upon|(dsimp only []))
 exact bodyPost_ret (v:=.bool x) (by simp [results,Tryz.results79,go_sem]) rfl ⟨rfl,zb2⟩
def badKey (keys:Nat→ByteArray) (i:Nat):Bool:=!validS (keys i) || (decide (0 < i) && !Op.bytesLess (keys (i - 1)).toList (keys i).toList)
def riseB (keys:Nat→ByteArray) (n:Nat):Bool:=!anyN (badKey keys) n
theorem key_two {w wr:World} {aK:Option Addr} {nK i:Nat} {keys:Nat→ByteArray} (hK:nK=0∨∃ b off,aK=some ⟨b,off,none⟩∧b < w.heap.size∧∀ i,i < nK→w.cell? ⟨b,off+i,none⟩=some (.string (keys i))∧(keys i).size≤maxLen)
  (hi:i < nK) (hB:Below w.heap.size w wr):∃ b off:Nat,aK=some ⟨b,off,none⟩∧b < w.heap.size∧wr.cell? ⟨b,off+i,none⟩=some (.string (keys i))∧wr.cell? ⟨b,off+(i - 1),none⟩=some (.string (keys (i - 1)))∧(keys i).size≤maxLen:=by
 rcases hK with h|⟨b,off,rfl,hb,hc⟩
 ·omega
 ·exact ⟨b,off,rfl,hb,by rw [hB.cell (p:=⟨b,off+i,none⟩) hb];exact (hc i hi).1,by rw [hB.cell (p:=⟨b,off+(i - 1),none⟩) hb];exact (hc (i - 1) z0c).1,(hc i hi).2⟩
theorem rise_any (aK:Option Addr) (nK cK:Nat) (keys:Nat→ByteArray) (w:World) (hT:U8T w) (hcK:cK≤maxLen) (hlK:nK≤cK)
  (hK:nK=0∨∃ b off,aK=some ⟨b,off,none⟩∧b < w.heap.size∧∀ i,i < nK→w.cell? ⟨b,off+i,none⟩=some (.string (keys i))∧(keys i).size≤maxLen) :
  Calls Tryz.prog 76 #[.slice aK nK cK] w fun e w'=>e=.returned (.bool (riseB keys nK))∧Below w.heap.size w w':=by
 obtain ⟨R,hR⟩:∃ R,R=riseB keys nK:=⟨_,rfl⟩
 rw [← hR]
 have HR:=Lib.hid hR
 have HK:=Lib.hid hK
 have HT:=Lib.hid hT
 clear hR hK hT
 simp only [maxLen] at hcK
 go_enter Tryz.func76,Tryz.ntmps76
 repeat any_goals (first|go_skip|go_guarded|go_step|go_upon|(simp only [];done))
 go_loopw [7] (fun i wr=>∃ k:Nat,k≤nK∧i=.int .i64 k∧anyN (badKey keys) k=false∧Below w.heap.size w wr) (fun i _=>nK - (intOf i).toNat)
 case atStart=>exact ⟨0,Nat.zero_le _,rfl,rfl,Below.refl _ _⟩
 case round=>
  obtain ⟨k,hk,rfl,hA,hW⟩:=hrel
  have HA:=Lib.hid hA
  clear hA
  by_cases hkn:k < nK
  ·obtain ⟨b,off,rfl,hb,hc,hc1,hs⟩:=key_two HK.out hkn hW
   have i1:(k:Int) < (nK:Int):=by omega
   have i2:(0:Int)≤(k:Int):=by omega
   have i5:(k:Int).toNat=k:=rfl
   obtain ⟨x,hx⟩:∃ x:Bool,x=validS (keys k):=⟨_,rfl⟩
   have HC:Hid (∀ w'':World,Below w.heap.size w w''→Calls Tryz.prog 79 #[.string (keys k)] w'' fun e w'=>e=.returned (.bool x)∧Below w''.heap.size w'' w'):=Lib.hid fun w'' hb=>by
    have:=PValid_any (keys k) w'' hs (Utf8Tabs_below HT.out hb)
    rwa [← hx] at this
   obtain ⟨y,hy⟩:∃ y:Bool,y=Op.bytesLess (keys (k - 1)).toList (keys k).toList:=⟨_,rfl⟩
   have HX:=Lib.hid (show badKey keys k=(!x || (decide (0 < k) && !y)) by rw [hx,hy];rfl)
   have HY:=Lib.hid hy
   clear hx hy hs
   cases x with
   | false=>
    have e:R=false:=by rw [HR.out];unfold riseB;rw [anyN_of (p:=badKey keys) (k:=k) (by rw [HX.out];rfl) hkn];rfl
    subst e
    repeat any_goals (first|(go_at_call 79;refine (HC.out _ zb2).mono ?_;rintro e w1 ⟨rfl,hb1⟩)|go_skip|go_guarded|go_step|go_upon|(dsimp only []))
    exact bodyPost_ret (v:=.bool false) (by simp [results,Tryz.results76,go_sem]) rfl ⟨rfl,zb2⟩
   | true=>
    by_cases k0:k=0
    ·subst k0
     rw [Nat.add_zero] at hc
     repeat any_goals (first|(go_at_call 79;refine (HC.out _ zb2).mono ?_;rintro e w1 ⟨rfl,hb1⟩)|go_skip|go_guarded|go_step|go_upon|(dsimp only []))
     go_roundw
     case rel=>exact ⟨1,by omega,rfl,by simp only [anyN];rw [HX.out];rfl,zb2⟩
     case measure=>simp [intOf];omega
    ·have i6:(0:Int) < (k:Int):=by omega
     have i7:(0:Int)≤(k:Int) - 1:=by omega
     have i8:((k:Int) - 1).toNat=k - 1:=by omega
     have i9:(k:Int) - 1 < (nK:Int):=by omega
     cases y with
     | false=>
      have e:R=false:=by rw [HR.out];unfold riseB;rw [anyN_of (p:=badKey keys) (k:=k) (by rw [HX.out,decide_eq_true z0c];rfl) hkn];rfl
      subst e
      have hyy:=HY.out.symm
      repeat any_goals (first|(go_at_call 79;refine (HC.out _ zb2).mono ?_;rintro e w1 ⟨rfl,hb1⟩;have hc2:=keep_cell hb1 hc1)|go_skip|go_guarded|go_step|go_upon|(dsimp only []))
      exact bodyPost_ret (v:=.bool false) (by simp [results,Tryz.results76,go_sem]) rfl ⟨rfl,zb2⟩
     | true=>
      have hyy:=HY.out.symm
      repeat any_goals (first|(go_at_call 79;refine (HC.out _ zb2).mono ?_;rintro e w1 ⟨rfl,hb1⟩;have hc2:=keep_cell hb1 hc1)|go_skip|go_guarded|go_step|go_upon|(dsimp only []))
      go_roundw
      case rel=>exact ⟨k+1,by omega,rfl,by simp only [anyN];rw [HA.out,HX.out];simp,zb2⟩
      case measure=>simp [intOf];omega
  ·have hk':k=nK:=by omega
   subst hk'
   have i1:¬ (k:Int) < (k:Int):=by omega
   have e:R=true:=by rw [HR.out];unfold riseB;rw [HA.out];rfl
   subst e
   repeat any_goals (first|go_skip|go_guarded|go_step|go_upon|(simp only [];done))
   exact bodyPost_ret (v:=.bool true) (by simp [results,Tryz.results76,go_sem]) rfl ⟨rfl,hW⟩
def fstN (p:Nat→Bool):Nat→Int
 | 0 => -1
 | k+1=>if fstN p k = -1 then (if p k=true then (k:Int) else -1) else fstN p k
theorem fstN_le {p:Nat→Bool}:∀ n,-1≤fstN p n:=by
 intro n
 induction n with
 | zero=>exact Int.le_refl _
 | succ n ih=>
  simp only [fstN]
  split
  ·split <;> omega
  ·exact ih
theorem fstN_keep {p : Nat → Bool} {k n : Nat} (h : fstN p k ≠ -1) (hk : k ≤ n) : fstN p n = fstN p k := by
  induction n with
  | zero => have : k = 0 := by omega
            subst this; rfl
  | succ n ih =>
    by_cases c : k ≤ n
    · have := ih c
      simp only [fstN]
      rw [this, if_neg h]
    · have : k = n + 1 := by omega
      subst this
      rfl
theorem calls_at (f:FuncId) {P:Program} {args:Array Value} {w:World} {Q Q':Ending→World→Prop} (h:Calls P f args w Q) (hq:∀ e w',Q e w'→Q' e w'):Calls P f args w Q':=h.mono hq
theorem IndexV_any (f:FuncId) (eg:∀ args W,(callFunc f args).run Tryz.prog W=.ok (.enter f args) W) (p:Nat→Bool) (aL:Option Addr) (nL cL:Nat) (kids:Nat→VT) (w:World) (hcL:cL≤maxLen) (hlL:nL≤cL)
  (hL:nL=0∨∃ b off,aL=some ⟨b,off,none⟩∧b < w.heap.size∧∀ i,i < nL→∀ j,j < 10→w.cell? ⟨b,off+i * 10+j,none⟩=(kids i).cells[j]?) (hK:∀ i,i < nL→(kids i).In w)
  (hf:∀ i,i < nL→∀ w':World,Below w.heap.size w w'→Calls Tryz.prog f #[(kids i).agg] w' fun e w2=>e=.returned (.bool (p i))∧Below w'.heap.size w' w2) :
  Calls Tryz.prog 91 #[.slice aL nL cL,.func (.func f) #[] #[]] w fun e w'=>e=.returned (.int .i64 (fstN p nL))∧Below w.heap.size w w':=by
 have HL:=Lib.hid hL
 have HK:=Lib.hid hK
 have HF:=Lib.hid hf
 clear hL hK hf
 simp only [maxLen] at hcL
 go_enter Tryz.func91,Tryz.ntmps91
 repeat any_goals (first|go_skip|go_guarded|go_step|go_upon|(simp only [];done))
 go_loopw [8] (fun i wr=>∃ k:Nat,k≤nL∧i=.int .i64 k∧fstN p k = -1∧Below w.heap.size w wr) (fun i _=>nL - (intOf i).toNat)
 case atStart=>exact ⟨0,Nat.zero_le _,rfl,rfl,Below.refl _ _⟩
 case round=>
  obtain ⟨k,hk,rfl,hA,hW⟩:=hrel
  have HA1:=Lib.hid hA
  clear hA
  by_cases hkn:k < nL
  ·obtain ⟨b,off,kind',neg',V',bits',text',aL',nL',cL',kids',aK',nK',cK',keys',rfl,hb,hkid,⟨c0,c1,c2,c3,c4,c5,c6,c7,c8,c9⟩,-⟩:=kid_lit HL.out HK.out hkn hW
   have i1:(k:Int) < (nL:Int):=by omega
   have i2:(0:Int)≤(k:Int):=by omega
   have i5:(k:Int).toNat=k:=rfl
   obtain ⟨x,hx⟩:∃ x:Bool,x=p k:=⟨_,rfl⟩
   have HC:∀ w'':World,Below wr.heap.size wr w''→Calls Tryz.prog f #[(kids k).agg] w'' fun e w'=>e=.returned (.bool x)∧Below w''.heap.size w'' w':=fun w'' hb=>by
    have:=HF.out k hkn w'' (below_trans hW hb)
    rwa [← hx] at this
   rw [hkid] at HC
   simp only [VT.agg,VT.cells] at HC
   have HC:=Lib.hid HC
   have HX:=Lib.hid hx
   clear hkid hx
   cases x with
   | true=>
    repeat any_goals (first|(with_reducible refine calls_at f (HC.out _ zb2) ?_;rintro e w1 ⟨rfl,hb1⟩)|go_skip|go_guarded|go_step|go_upon|(dsimp only []))
    have e:fstN p nL=k:=by
     have h1:fstN p (k+1)=k:=by simp only [fstN];rw [HA1.out,← HX.out];simp
     rw [fstN_keep (k:=k+1) (by rw [h1];omega) z0c,h1]
    exact bodyPost_ret (v:=.int .i64 k) (by simp [results,Tryz.results91,go_sem]) rfl ⟨by rw [e],zb2⟩
   | false=>
    exact z3zk2
  ·have hk':k=nL:=by omega
   subst hk'
   have i1:¬ (k:Int) < (k:Int):=by omega
   repeat any_goals (first|go_skip|go_guarded|go_step|go_upon|(simp only [];done))
   exact bodyPost_ret (v:=.int .i64 (-1)) (by simp [results,Tryz.results91,go_sem]) rfl ⟨by rw [HA1.out],hW⟩
theorem fstN_any {p:Nat→Bool} (n:Nat):decide (0≤fstN p n)=anyN p n:=by
 induction n with
 | zero=>rfl
 | succ n ih=>
  have h0:fstN p (n+1)=if fstN p n = -1 then (if p n=true then (n:Int) else -1) else fstN p n:=rfl
  have h2:anyN p (n+1)=(anyN p n || p n):=rfl
  rw [h2,← ih]
  have h1:=fstN_le (p:=p) n
  by_cases c:fstN p n = -1
  ·rw [if_pos c] at h0
   cases hp:p n
   ·rw [hp,if_neg Bool.false_ne_true] at h0
    rw [decide_eq_false (show ¬ (0:Int)≤fstN p (n+1) by omega),decide_eq_false (show ¬ (0:Int)≤fstN p n by omega)]
    rfl
   ·rw [hp,if_pos rfl] at h0
    rw [decide_eq_true (show (0:Int)≤fstN p (n+1) by omega),Bool.or_true]
  ·rw [if_neg c] at h0
   rw [decide_eq_true (show (0:Int)≤fstN p (n+1) by omega),decide_eq_true (show (0:Int)≤fstN p n by omega)]
   rfl
theorem ContV_any (f:FuncId) (eg:∀ args W,(callFunc f args).run Tryz.prog W=.ok (.enter f args) W) (p:Nat→Bool) (aL:Option Addr) (nL cL:Nat) (kids:Nat→VT) (w:World) (hcL:cL≤maxLen) (hlL:nL≤cL)
  (hL:nL=0∨∃ b off,aL=some ⟨b,off,none⟩∧b < w.heap.size∧∀ i,i < nL→∀ j,j < 10→w.cell? ⟨b,off+i * 10+j,none⟩=(kids i).cells[j]?) (hK:∀ i,i < nL→(kids i).In w)
  (hf:∀ i,i < nL→∀ w':World,Below w.heap.size w w'→Calls Tryz.prog f #[(kids i).agg] w' fun e w2=>e=.returned (.bool (p i))∧Below w'.heap.size w' w2) :
  Calls Tryz.prog 75 #[.slice aL nL cL,.func (.func f) #[] #[]] w fun e w'=>e=.returned (.bool (anyN p nL))∧Below w.heap.size w w':=by
 have C:=IndexV_any f eg p aL nL cL kids w hcL hlL hL hK hf
 obtain ⟨z,hz⟩:∃ z,z=fstN p nL:=⟨_,rfl⟩
 have e:=fstN_any (p:=p) nL
 rw [← hz] at C e
 have C:=Lib.hid C
 rw [← e]
 clear hL hK hf hz e
 go_enter Tryz.func75,Tryz.ntmps75
 repeat any_goals (first|(go_at_call 91;with_reducible refine C.out.mono ?_;rintro e w1 ⟨rfl,hb1⟩)|go_skip|go_guarded|go_step|go_upon|(dsimp only []))
 exact bodyPost_ret (v:=.bool (decide (0≤z))) (by simp [results,Tryz.results75,go_sem]) rfl ⟨rfl,zb2⟩
theorem IndexK_any (f:FuncId) (eg:∀ args W,(callFunc f args).run Tryz.prog W=.ok (.enter f args) W) (p:Nat→Bool) (aK:Option Addr) (nK cK:Nat) (keys:Nat→ByteArray) (w:World) (hcK:cK≤maxLen) (hlK:nK≤cK)
  (hK:nK=0∨∃ b off,aK=some ⟨b,off,none⟩∧b < w.heap.size∧∀ i,i < nK→w.cell? ⟨b,off+i,none⟩=some (.string (keys i))∧(keys i).size≤maxLen)
  (hf:∀ i,i < nK→∀ w':World,Below w.heap.size w w'→Calls Tryz.prog f #[.string (keys i)] w' fun e w2=>e=.returned (.bool (p i))∧Below w'.heap.size w' w2) :
  Calls Tryz.prog 88 #[.slice aK nK cK,.func (.func f) #[] #[]] w fun e w'=>e=.returned (.int .i64 (fstN p nK))∧Below w.heap.size w w':=by
 have HK:=Lib.hid hK
 have HF:=Lib.hid hf
 clear hK hf
 simp only [maxLen] at hcK
 go_enter Tryz.func88,Tryz.ntmps88
 repeat any_goals (first|go_skip|go_guarded|go_step|go_upon|(simp only [];done))
 go_loopw [8] (fun i wr=>∃ k:Nat,k≤nK∧i=.int .i64 k∧fstN p k = -1∧Below w.heap.size w wr) (fun i _=>nK - (intOf i).toNat)
 case atStart=>exact ⟨0,Nat.zero_le _,rfl,rfl,Below.refl _ _⟩
 case round=>
  obtain ⟨k,hk,rfl,hA,hW⟩:=hrel
  have HA1:=Lib.hid hA
  clear hA
  by_cases hkn:k < nK
  ·obtain ⟨b,off,rfl,hb,hc,hs⟩:=key_lit HK.out hkn hW
   clear hs
   have i1:(k:Int) < (nK:Int):=by omega
   have i2:(0:Int)≤(k:Int):=by omega
   have i5:(k:Int).toNat=k:=rfl
   obtain ⟨x,hx⟩:∃ x:Bool,x=p k:=⟨_,rfl⟩
   have HC:∀ w'':World,Below wr.heap.size wr w''→Calls Tryz.prog f #[.string (keys k)] w'' fun e w'=>e=.returned (.bool x)∧Below w''.heap.size w'' w':=fun w'' hb=>by
    have:=HF.out k hkn w'' (below_trans hW hb)
    rwa [← hx] at this
   have HC:=Lib.hid HC
   have HX:=Lib.hid hx
   clear hx
   cases x with
   | true=>
    repeat any_goals (first|(with_reducible refine calls_at f (HC.out _ zb2) ?_;rintro e w1 ⟨rfl,hb1⟩)|go_skip|go_guarded|go_step|go_upon|(dsimp only []))
    have e:fstN p nK=k:=by
     have h1:fstN p (k+1)=k:=by simp only [fstN];rw [HA1.out,← HX.out];simp
     rw [fstN_keep (k:=k+1) (by rw [h1];omega) z0c,h1]
    exact bodyPost_ret (v:=.int .i64 k) (by simp [results,Tryz.results88,go_sem]) rfl ⟨by rw [e],zb2⟩
   | false=>
    exact z3zk2
  ·have hk':k=nK:=by omega
   subst hk'
   have i1:¬ (k:Int) < (k:Int):=by omega
   repeat any_goals (first|go_skip|go_guarded|go_step|go_upon|(simp only [];done))
   exact bodyPost_ret (v:=.int .i64 (-1)) (by simp [results,Tryz.results88,go_sem]) rfl ⟨by rw [HA1.out],hW⟩
theorem ContK_any (f:FuncId) (eg:∀ args W,(callFunc f args).run Tryz.prog W=.ok (.enter f args) W) (p:Nat→Bool) (aK:Option Addr) (nK cK:Nat) (keys:Nat→ByteArray) (w:World) (hcK:cK≤maxLen) (hlK:nK≤cK)
  (hK:nK=0∨∃ b off,aK=some ⟨b,off,none⟩∧b < w.heap.size∧∀ i,i < nK→w.cell? ⟨b,off+i,none⟩=some (.string (keys i))∧(keys i).size≤maxLen)
  (hf:∀ i,i < nK→∀ w':World,Below w.heap.size w w'→Calls Tryz.prog f #[.string (keys i)] w' fun e w2=>e=.returned (.bool (p i))∧Below w'.heap.size w' w2) :
  Calls Tryz.prog 69 #[.slice aK nK cK,.func (.func f) #[] #[]] w fun e w'=>e=.returned (.bool (anyN p nK))∧Below w.heap.size w w':=by
 have C:=IndexK_any f eg p aK nK cK keys w hcK hlK hK hf
 obtain ⟨z,hz⟩:∃ z,z=fstN p nK:=⟨_,rfl⟩
 have e:=fstN_any (p:=p) nK
 rw [← hz] at C e
 have C:=Lib.hid C
 rw [← e]
 clear hK hf hz e
 go_enter Tryz.func69,Tryz.ntmps69
 repeat any_goals (first|(go_at_call 88;with_reducible refine C.out.mono ?_;rintro e w1 ⟨rfl,hb1⟩)|go_skip|go_guarded|go_step|go_upon|(dsimp only []))
 exact bodyPost_ret (v:=.bool (decide (0≤z))) (by simp [results,Tryz.results69,go_sem]) rfl ⟨rfl,zb2⟩
def Cells4 (wx:World) (b:Nat) (a0 a1 a2 a3:Int):Prop:=
 (wx.cell? ⟨b,0,none⟩=some (.int .u64 a0)∧wx.cell? ⟨b,1,none⟩=some (.int .u64 a1)∧wx.cell? ⟨b,2,none⟩=some (.int .u64 a2)∧wx.cell? ⟨b,3,none⟩=some (.int .u64 a3)) ∧
 (wx.frozen? ⟨b,0,none⟩=false∧wx.frozen? ⟨b,1,none⟩=false∧wx.frozen? ⟨b,2,none⟩=false∧wx.frozen? ⟨b,3,none⟩=false)∧b < wx.heap.size
theorem Cells4.below {w wx:World} {b:Nat} {a0 a1 a2 a3:Int} (h:Cells4 w b a0 a1 a2 a3) (hb:Below w.heap.size w wx):Cells4 wx b a0 a1 a2 a3:=by
 obtain ⟨⟨c0,c1,c2,c3⟩,⟨f0,f1,f2,f3⟩,hl⟩:=h
 refine ⟨⟨?_,?_,?_,?_⟩,⟨?_,?_,?_,?_⟩,Nat.lt_of_lt_of_le hl hb.size⟩ <;> first|(rw [hb.cell hl];assumption)|(rw [hb.frozen hl];assumption)
theorem Cells4.alloc {w:World} {b:Nat} {a0 a1 a2 a3:Int} (h:Cells4 w b a0 a1 a2 a3) (o:Obj):Cells4 (w.alloc o) b a0 a1 a2 a3:=
 h.below ((Below.refl _ _).alloc (Nat.le_refl _) o)
theorem Cells4.new1 (w:World) (o:Obj) (a0 a1 a2 a3:Int) (t:TypeId):Cells4 ((w.alloc o).alloc (.cells #[.int .u64 a0,.int .u64 a1,.int .u64 a2,.int .u64 a3] t)) (w.heap.size+1) a0 a1 a2 a3:=by
 refine ⟨⟨?_,?_,?_,?_⟩,⟨?_,?_,?_,?_⟩,?_⟩ <;> simp [go_sem]
theorem Cells4.new (w:World) (a0 a1 a2 a3:Int) (t:TypeId):Cells4 (w.alloc (.cells #[.int .u64 a0,.int .u64 a1,.int .u64 a2,.int .u64 a3] t)) w.heap.size a0 a1 a2 a3:=by
 refine ⟨⟨?_,?_,?_,?_⟩,⟨?_,?_,?_,?_⟩,?_⟩ <;> simp [go_sem]
theorem zero4 {a0 a1 a2 a3:Nat} (h:(((a0:Int) == 0) && ((a1:Int) == 0) && ((a2:Int) == 0) && ((a3:Int) == 0))=true):((a0:Int) == 0)=true∧((a1:Int) == 0)=true∧((a2:Int) == 0)=true∧((a3:Int) == 0)=true:=by
 simp only [Bool.and_eq_true] at h
 exact ⟨h.1.1.1,h.1.1.2,h.1.2,h.2⟩
def ShlIn (w:World) (a0 a1 a2 a3:Nat) (wx:World):Prop:=Below w.heap.size w wx∧Cells4 wx w.heap.size a0 a1 a2 a3∧Cells4 wx (w.heap.size+1) 0 0 0 0
theorem Shl_0z (a0 a1 a2 a3:Nat) (h0:a0 < 18446744073709551616) (h1:a1 < 18446744073709551616) (h2:a2 < 18446744073709551616) (h3:a3 < 18446744073709551616) (k:Int) (w:World)
  (k0:0≤k) (hq:k / 64=0) (hr:k % 64=0) (hlen:(((a0:Int) == 0) && ((a1:Int) == 0) && ((a2:Int) == 0) && ((a3:Int) == 0))=true∨k≤256 - (len4 a0 a1 a2 a3:Nat)) (ez0:bits BinOp.or IntKind.u64 0 (a0:Int)=(a0:Int)) (ez1:bits BinOp.or IntKind.u64 0 (a1:Int)=(a1:Int)) (ez2:bits BinOp.or IntKind.u64 0 (a2:Int)=(a2:Int)) (ez3:bits BinOp.or IntKind.u64 0 (a3:Int)=(a3:Int)) :
  Calls Tryz.prog 116 #[.agg #[.int .u64 a0,.int .u64 a1,.int .u64 a2,.int .u64 a3],.int .i64 k] w fun e w'=>e=.returned (.tuple #[.agg #[.int .u64 a0,.int .u64 a1,.int .u64 a2,.int .u64 a3],.bool true])∧Below w.heap.size w w':=by
 have r1:k % 64≤63:=by omega
 go_enter Tryz.func116,Tryz.ntmps116
 go_upto_region 1 with fail
 go_cut [23] (fun s23 wx=>s23=.bool false∧ShlIn w a0 a1 a2 a3 wx)
 case first=>
  exact z3zk1
 case rest=>
  obtain ⟨rfl,hb,⟨⟨c0,c1,c2,c3⟩,-,hl⟩,⟨⟨e0,e1,e2,e3⟩,⟨f0,f1,f2,f3⟩,hl2⟩⟩:=hcut
  clear hlen
  have d0:∀ o,(wc.alloc o).cell? ⟨w.heap.size,0,none⟩=some (.int .u64 a0):=fun o=>(World.cell?_alloc_past _ _ _ hl).trans c0
  have d1:∀ o,(wc.alloc o).cell? ⟨w.heap.size,1,none⟩=some (.int .u64 a1):=fun o=>(World.cell?_alloc_past _ _ _ hl).trans c1
  have d2:∀ o,(wc.alloc o).cell? ⟨w.heap.size,2,none⟩=some (.int .u64 a2):=fun o=>(World.cell?_alloc_past _ _ _ hl).trans c2
  have d3:∀ o,(wc.alloc o).cell? ⟨w.heap.size,3,none⟩=some (.int .u64 a3):=fun o=>(World.cell?_alloc_past _ _ _ hl).trans c3
  go_wp2_with fail
  refine wp_loop_rounds 5 ?_
  iterate 5 (rw [rounds_succ];go_wp2_with (refine still_tail 12 z0a z0a ?_;simp only [List.take_succ_cons,List.take_zero,List.drop_succ_cons,List.drop_zero];(repeat still_step);refine wpStill_nil ?_))
  refine bodyPost_ret (v:=.tuple #[.agg #[.int .u64 a0,.int .u64 a1,.int .u64 a2,.int .u64 a3],.bool true]) ?_ rfl ⟨rfl,zb1⟩
  simp [results,Tryz.results116,go_sem,hl2,e0,e1,e2,e3]
theorem Shl_0p (a0 a1 a2 a3:Nat) (l0 l1 l2 l3 g0 g1 g2 o1 o2 o3:Nat) (h0:a0 < 18446744073709551616) (h1:a1 < 18446744073709551616) (h2:a2 < 18446744073709551616) (h3:a3 < 18446744073709551616) (k:Int) (w:World)
  (k0:0≤k) (hq:k / 64=0) (hr:0 < k % 64) (hlen:(((a0:Int) == 0) && ((a1:Int) == 0) && ((a2:Int) == 0) && ((a3:Int) == 0))=true∨k≤256 - (len4 a0 a1 a2 a3:Nat)) (el0:IntKind.u64.wrap ((a0:Int) * 2 ^ min (k % 64).toNat 64)=(l0:Int)) (el1:IntKind.u64.wrap ((a1:Int) * 2 ^ min (k % 64).toNat 64)=(l1:Int)) (el2:IntKind.u64.wrap ((a2:Int) * 2 ^ min (k % 64).toNat 64)=(l2:Int)) (el3:IntKind.u64.wrap ((a3:Int) * 2 ^ min (k % 64).toNat 64)=(l3:Int)) (eg0:(a0:Int) / 2 ^ min (64 - k % 64).toNat 64=(g0:Int)) (eg1:(a1:Int) / 2 ^ min (64 - k % 64).toNat 64=(g1:Int)) (eg2:(a2:Int) / 2 ^ min (64 - k % 64).toNat 64=(g2:Int)) (eo1:bits BinOp.or IntKind.u64 (g0:Int) (l1:Int)=(o1:Int)) (eo2:bits BinOp.or IntKind.u64 (g1:Int) (l2:Int)=(o2:Int)) (eo3:bits BinOp.or IntKind.u64 (g2:Int) (l3:Int)=(o3:Int)) (ez:bits BinOp.or IntKind.u64 0 (l0:Int)=(l0:Int)) (ey0:bits BinOp.or IntKind.u64 0 (g0:Int)=(g0:Int)) (ey1:bits BinOp.or IntKind.u64 0 (g1:Int)=(g1:Int)) (ey2:bits BinOp.or IntKind.u64 0 (g2:Int)=(g2:Int)) :
  Calls Tryz.prog 116 #[.agg #[.int .u64 a0,.int .u64 a1,.int .u64 a2,.int .u64 a3],.int .i64 k] w fun e w'=>e=.returned (.tuple #[.agg #[.int .u64 l0,.int .u64 o1,.int .u64 o2,.int .u64 o3],.bool true])∧Below w.heap.size w w':=by
 have r1:k % 64≤63:=by omega
 go_enter Tryz.func116,Tryz.ntmps116
 go_upto_region 1 with fail
 go_cut [23] (fun s23 wx=>s23=.bool false∧ShlIn w a0 a1 a2 a3 wx)
 case first=>
  exact z3zk1
 case rest=>
  obtain ⟨rfl,hb,⟨⟨c0,c1,c2,c3⟩,-,hl⟩,⟨⟨e0,e1,e2,e3⟩,⟨f0,f1,f2,f3⟩,hl2⟩⟩:=hcut
  clear hlen
  have d0:∀ o,(wc.alloc o).cell? ⟨w.heap.size,0,none⟩=some (.int .u64 a0):=fun o=>(World.cell?_alloc_past _ _ _ hl).trans c0
  have d1:∀ o,(wc.alloc o).cell? ⟨w.heap.size,1,none⟩=some (.int .u64 a1):=fun o=>(World.cell?_alloc_past _ _ _ hl).trans c1
  have d2:∀ o,(wc.alloc o).cell? ⟨w.heap.size,2,none⟩=some (.int .u64 a2):=fun o=>(World.cell?_alloc_past _ _ _ hl).trans c2
  have d3:∀ o,(wc.alloc o).cell? ⟨w.heap.size,3,none⟩=some (.int .u64 a3):=fun o=>(World.cell?_alloc_past _ _ _ hl).trans c3
  go_wp2_with fail
  refine wp_loop_rounds 5 ?_
  iterate 5 (rw [rounds_succ];go_wp2_with (refine still_tail 12 z0a z0a ?_;simp only [List.take_succ_cons,List.take_zero,List.drop_succ_cons,List.drop_zero];(repeat still_step);refine wpStill_nil ?_))
  refine bodyPost_ret (v:=.tuple #[.agg #[.int .u64 l0,.int .u64 o1,.int .u64 o2,.int .u64 o3],.bool true]) ?_ rfl ⟨rfl,zb1⟩
  simp [results,Tryz.results116,go_sem,hl2,e0,e1,e2,e3]
end Go.Proofs.YtfondldmmcmloaaGreatDoor
