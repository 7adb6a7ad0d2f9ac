/- VCf, PM, PA, UtfM, ShelfV. -/
import Derived.Lib.ValidLaws
import Derived.Test.YtfondldmmcmloaaDoorPd1
set_option maxRecDepth 1000000
set_option maxHeartbeats 8000000
namespace Go.Proofs.YtfondldmmcmloaaDoor
open Go Go.RowKit
theorem z2zk1 {p:Prop} (h:p:=by
 repeat any_goals (first|go_skip|go_guarded|go_step|go_upon|(simp only [];done))
 exact bodyPost_ret (v:=.bool true) z0q rfl ⟨by simp,rfl⟩):p:=h
theorem z2zk2 {p:Prop} (h:p:=by
 repeat any_goals (first|(with_reducible refine calls_at f (HC.out _ zb2) ?_;rintro e w1 ⟨rfl,hb1⟩)|go_skip|go_guarded|go_step|go_upon|(dsimp only []))
 go_roundw
 case rel=>exact ⟨k+1,by omega,rfl,by simp only [fstN];rw [HA1.out,← HX.out];simp,zb2⟩
 case measure=>simp [intOf];omega):p:=h
theorem z2zk3 {p:Prop} (h:p:=by
 refine ⟨h.l,h.lc,?_⟩
 rcases h.c with h0|⟨b,off,e,hl,hc⟩
 ·exact .inl h0
 ·exact .inr ⟨b,off,e,Nat.lt_of_lt_of_le hl hb.size,fun i hi=>⟨by rw [hb.cell (p:=⟨b,off+i,none⟩) hl];exact (hc i hi).1,(hc i hi).2⟩⟩):p:=h
theorem z2zk4 {p:Prop} (h:p:=by
 have e:R=false:=by rw [HR.out];unfold letterN;simp;omega
 subst e
 repeat any_goals (first|go_skip|go_guarded|go_step|go_upon|(simp only [];done))
 exact bodyPost_ret (v:=.bool false) (by simp [results,Tryd.results44,go_sem]) rfl ⟨rfl,rfl⟩):p:=h
theorem z2zk5 {p:Prop} (h:p:=by
 repeat any_goals (first|(go_at_call 44;with_reducible refine (C1.out _).mono ?_;rintro e w1 ⟨rfl,rfl⟩)|(go_at_call 47;with_reducible refine (C2.out _).mono ?_;rintro e w2 ⟨rfl,rfl⟩)|go_skip|go_guarded|go_step|go_upon|(dsimp only []))
 exact bodyPost_ret (v:=.bool true) (by simp [results,Tryd.results46,go_sem]) rfl ⟨rfl,rfl⟩):p:=h
theorem z2zk6 {p:Prop} (h:p:=by
 have e:R=false:=by rw [HR.out];unfold digitN;simp;omega
 subst e
 repeat any_goals (first|go_skip|go_guarded|go_step|go_upon|(simp only [];done))
 exact bodyPost_ret (v:=.bool false) (by simp [results,Tryd.results47,go_sem]) rfl ⟨rfl,rfl⟩):p:=h
theorem z2zk7 {p:Prop} (h:p:=by
 have e:R=true:=by rw [HR.out];unfold letterN;simp;omega
 subst e
 repeat any_goals (first|go_skip|go_guarded|go_step|go_upon|(simp only [];done))
 exact bodyPost_ret (v:=.bool true) (by simp [results,Tryd.results44,go_sem]) rfl ⟨rfl,rfl⟩):p:=h
theorem z2zk8 {p:Prop} (h:p:=by
 exact bodyPost_ret (v:=.bool false) (by simp [results,Tryd.results30,go_sem]) rfl ⟨rfl,rfl⟩):p:=h
end Go.Proofs.YtfondldmmcmloaaDoor
namespace Go.Proofs.YtfondldmmcmloaaDoor
open Go.RowKit
def fstN (p:Nat→Bool):Nat→Int
 | 0 => -1
 | k+1=>if fstN p k = -1 then (if p k=true then (k:Int) else -1) else fstN p k
theorem fstN_le {p:Nat→Bool}:∀ n,-1≤fstN p n:=by
 intro n
 induction n with
 | zero=>exact Int.le_refl _
 | succ n ih=>
  simp only [fstN]
  split
  ·split <;> omega
  ·exact ih
theorem fstN_keep {p : Nat → Bool} {k n : Nat} (h : fstN p k ≠ -1) (hk : k ≤ n) : fstN p n = fstN p k := by
  induction n with
  | zero => have : k = 0 := by omega
            subst this; rfl
  | succ n ih =>
    by_cases c : k ≤ n
    · have := ih c
      simp only [fstN]
      rw [this, if_neg h]
    · have : k = n + 1 := by omega
      subst this
      rfl
theorem calls_at (f:FuncId) {P:Program} {args:Array Value} {w:World} {Q Q':Ending→World→Prop} (h:Calls P f args w Q) (hq:∀ e w',Q e w'→Q' e w'):Calls P f args w Q':=h.mono hq
theorem IndexV_any (f:FuncId) (eg:∀ args W,(callFunc f args).run Tryd.prog W=.ok (.enter f args) W) (p:Nat→Bool) (aL:Option Addr) (nL cL:Nat) (kids:Nat→VT) (w:World) (hcL:cL≤maxLen) (hlL:nL≤cL)
  (hL:nL=0∨∃ b off,aL=some ⟨b,off,none⟩∧b < w.heap.size∧∀ i,i < nL→∀ j,j < 10→w.cell? ⟨b,off+i * 10+j,none⟩=(kids i).cells[j]?) (hK:∀ i,i < nL→(kids i).In w)
  (hf:∀ i,i < nL→∀ w':World,Below w.heap.size w w'→Calls Tryd.prog f #[(kids i).agg] w' fun e w2=>e=.returned (.bool (p i))∧Below w'.heap.size w' w2) :
  Calls Tryd.prog 71 #[.slice aL nL cL,.func (.func f) #[] #[]] w fun e w'=>e=.returned (.int .i64 (fstN p nL))∧Below w.heap.size w w':=by
 have HL:=Lib.hid hL
 have HK:=Lib.hid hK
 have HF:=Lib.hid hf
 clear hL hK hf
 simp only [maxLen] at hcL
 go_enter Tryd.func71,Tryd.ntmps71
 repeat any_goals (first|go_skip|go_guarded|go_step|go_upon|(simp only [];done))
 go_loopw [8] (fun i wr=>∃ k:Nat,k≤nL∧i=.int .i64 k∧fstN p k = -1∧Below w.heap.size w wr) (fun i _=>nL - (intOf i).toNat)
 case atStart=>exact ⟨0,Nat.zero_le _,rfl,rfl,Below.refl _ _⟩
 case round=>
  obtain ⟨k,hk,rfl,hA,hW⟩:=hrel
  have HA1:=Lib.hid hA
  clear hA
  by_cases hkn:k < nL
  ·obtain ⟨b,off,kind',neg',V',bits',text',aL',nL',cL',kids',aK',nK',cK',keys',rfl,hb,hkid,⟨c0,c1,c2,c3,c4,c5,c6,c7,c8,c9⟩,-⟩:=kid_lit HL.out HK.out hkn hW
   have i1:(k:Int) < (nL:Int):=by omega
   have i2:(0:Int)≤(k:Int):=by omega
   have i5:(k:Int).toNat=k:=rfl
   obtain ⟨x,hx⟩:∃ x:Bool,x=p k:=⟨_,rfl⟩
   have HC:∀ w'':World,Below wr.heap.size wr w''→Calls Tryd.prog f #[(kids k).agg] w'' fun e w'=>e=.returned (.bool x)∧Below w''.heap.size w'' w':=fun w'' hb=>by
    have:=HF.out k hkn w'' (below_trans hW hb)
    rwa [← hx] at this
   rw [hkid] at HC
   simp only [VT.agg,VT.cells] at HC
   have HC:=Lib.hid HC
   have HX:=Lib.hid hx
   clear hkid hx
   cases x with
   | true=>
    repeat any_goals (first|(with_reducible refine calls_at f (HC.out _ zb2) ?_;rintro e w1 ⟨rfl,hb1⟩)|go_skip|go_guarded|go_step|go_upon|(dsimp only []))
    have e:fstN p nL=k:=by
     have h1:fstN p (k+1)=k:=by simp only [fstN];rw [HA1.out,← HX.out];simp
     rw [fstN_keep (k:=k+1) (by rw [h1];omega) z0b,h1]
    exact bodyPost_ret (v:=.int .i64 k) (by simp [results,Tryd.results71,go_sem]) rfl ⟨by rw [e],zb2⟩
   | false=>
    exact z2zk2
  ·have hk':k=nL:=by omega
   subst hk'
   have i1:¬ (k:Int) < (k:Int):=by omega
   repeat any_goals (first|go_skip|go_guarded|go_step|go_upon|(simp only [];done))
   exact bodyPost_ret (v:=.int .i64 (-1)) (by simp [results,Tryd.results71,go_sem]) rfl ⟨by rw [HA1.out],hW⟩
theorem fstN_any {p:Nat→Bool} (n:Nat):decide (0≤fstN p n)=anyN p n:=by
 induction n with
 | zero=>rfl
 | succ n ih=>
  have h0:fstN p (n+1)=if fstN p n = -1 then (if p n=true then (n:Int) else -1) else fstN p n:=rfl
  have h2:anyN p (n+1)=(anyN p n || p n):=rfl
  rw [h2,← ih]
  have h1:=fstN_le (p:=p) n
  by_cases c:fstN p n = -1
  ·rw [if_pos c] at h0
   cases hp:p n
   ·rw [hp,if_neg Bool.false_ne_true] at h0
    rw [decide_eq_false (show ¬ (0:Int)≤fstN p (n+1) by omega),decide_eq_false (show ¬ (0:Int)≤fstN p n by omega)]
    rfl
   ·rw [hp,if_pos rfl] at h0
    rw [decide_eq_true (show (0:Int)≤fstN p (n+1) by omega),Bool.or_true]
  ·rw [if_neg c] at h0
   rw [decide_eq_true (show (0:Int)≤fstN p (n+1) by omega),decide_eq_true (show (0:Int)≤fstN p n by omega)]
   rfl
theorem ContV_any (f:FuncId) (eg:∀ args W,(callFunc f args).run Tryd.prog W=.ok (.enter f args) W) (p:Nat→Bool) (aL:Option Addr) (nL cL:Nat) (kids:Nat→VT) (w:World) (hcL:cL≤maxLen) (hlL:nL≤cL)
  (hL:nL=0∨∃ b off,aL=some ⟨b,off,none⟩∧b < w.heap.size∧∀ i,i < nL→∀ j,j < 10→w.cell? ⟨b,off+i * 10+j,none⟩=(kids i).cells[j]?) (hK:∀ i,i < nL→(kids i).In w)
  (hf:∀ i,i < nL→∀ w':World,Below w.heap.size w w'→Calls Tryd.prog f #[(kids i).agg] w' fun e w2=>e=.returned (.bool (p i))∧Below w'.heap.size w' w2) :
  Calls Tryd.prog 57 #[.slice aL nL cL,.func (.func f) #[] #[]] w fun e w'=>e=.returned (.bool (anyN p nL))∧Below w.heap.size w w':=by
 have C:=IndexV_any f eg p aL nL cL kids w hcL hlL hL hK hf
 obtain ⟨z,hz⟩:∃ z,z=fstN p nL:=⟨_,rfl⟩
 have e:=fstN_any (p:=p) nL
 rw [← hz] at C e
 have C:=Lib.hid C
 rw [← e]
 clear hL hK hf hz e
 go_enter Tryd.func57,Tryd.ntmps57
 repeat any_goals (first|(go_at_call 71;with_reducible refine C.out.mono ?_;rintro e w1 ⟨rfl,hb1⟩)|go_skip|go_guarded|go_step|go_upon|(dsimp only []))
 exact bodyPost_ret (v:=.bool (decide (0≤z))) (by simp [results,Tryd.results57,go_sem]) rfl ⟨rfl,zb2⟩
theorem IndexK_any (f:FuncId) (eg:∀ args W,(callFunc f args).run Tryd.prog W=.ok (.enter f args) W) (p:Nat→Bool) (aK:Option Addr) (nK cK:Nat) (keys:Nat→ByteArray) (w:World) (hcK:cK≤maxLen) (hlK:nK≤cK)
  (hK:nK=0∨∃ b off,aK=some ⟨b,off,none⟩∧b < w.heap.size∧∀ i,i < nK→w.cell? ⟨b,off+i,none⟩=some (.string (keys i))∧(keys i).size≤maxLen)
  (hf:∀ i,i < nK→∀ w':World,Below w.heap.size w w'→Calls Tryd.prog f #[.string (keys i)] w' fun e w2=>e=.returned (.bool (p i))∧Below w'.heap.size w' w2) :
  Calls Tryd.prog 68 #[.slice aK nK cK,.func (.func f) #[] #[]] w fun e w'=>e=.returned (.int .i64 (fstN p nK))∧Below w.heap.size w w':=by
 have HK:=Lib.hid hK
 have HF:=Lib.hid hf
 clear hK hf
 simp only [maxLen] at hcK
 go_enter Tryd.func68,Tryd.ntmps68
 repeat any_goals (first|go_skip|go_guarded|go_step|go_upon|(simp only [];done))
 go_loopw [8] (fun i wr=>∃ k:Nat,k≤nK∧i=.int .i64 k∧fstN p k = -1∧Below w.heap.size w wr) (fun i _=>nK - (intOf i).toNat)
 case atStart=>exact ⟨0,Nat.zero_le _,rfl,rfl,Below.refl _ _⟩
 case round=>
  obtain ⟨k,hk,rfl,hA,hW⟩:=hrel
  have HA1:=Lib.hid hA
  clear hA
  by_cases hkn:k < nK
  ·obtain ⟨b,off,rfl,hb,hc,hs⟩:=key_lit HK.out hkn hW
   clear hs
   have i1:(k:Int) < (nK:Int):=by omega
   have i2:(0:Int)≤(k:Int):=by omega
   have i5:(k:Int).toNat=k:=rfl
   obtain ⟨x,hx⟩:∃ x:Bool,x=p k:=⟨_,rfl⟩
   have HC:∀ w'':World,Below wr.heap.size wr w''→Calls Tryd.prog f #[.string (keys k)] w'' fun e w'=>e=.returned (.bool x)∧Below w''.heap.size w'' w':=fun w'' hb=>by
    have:=HF.out k hkn w'' (below_trans hW hb)
    rwa [← hx] at this
   have HC:=Lib.hid HC
   have HX:=Lib.hid hx
   clear hx
   cases x with
   | true=>
    repeat any_goals (first|(with_reducible refine calls_at f (HC.out _ zb2) ?_;rintro e w1 ⟨rfl,hb1⟩)|go_skip|go_guarded|go_step|go_upon|(dsimp only []))
    have e:fstN p nK=k:=by
     have h1:fstN p (k+1)=k:=by simp only [fstN];rw [HA1.out,← HX.out];simp
     rw [fstN_keep (k:=k+1) (by rw [h1];omega) z0b,h1]
    exact bodyPost_ret (v:=.int .i64 k) (by simp [results,Tryd.results68,go_sem]) rfl ⟨by rw [e],zb2⟩
   | false=>
    exact z2zk2
  ·have hk':k=nK:=by omega
   subst hk'
   have i1:¬ (k:Int) < (k:Int):=by omega
   repeat any_goals (first|go_skip|go_guarded|go_step|go_upon|(simp only [];done))
   exact bodyPost_ret (v:=.int .i64 (-1)) (by simp [results,Tryd.results68,go_sem]) rfl ⟨by rw [HA1.out],hW⟩
theorem ContK_any (f:FuncId) (eg:∀ args W,(callFunc f args).run Tryd.prog W=.ok (.enter f args) W) (p:Nat→Bool) (aK:Option Addr) (nK cK:Nat) (keys:Nat→ByteArray) (w:World) (hcK:cK≤maxLen) (hlK:nK≤cK)
  (hK:nK=0∨∃ b off,aK=some ⟨b,off,none⟩∧b < w.heap.size∧∀ i,i < nK→w.cell? ⟨b,off+i,none⟩=some (.string (keys i))∧(keys i).size≤maxLen)
  (hf:∀ i,i < nK→∀ w':World,Below w.heap.size w w'→Calls Tryd.prog f #[.string (keys i)] w' fun e w2=>e=.returned (.bool (p i))∧Below w'.heap.size w' w2) :
  Calls Tryd.prog 51 #[.slice aK nK cK,.func (.func f) #[] #[]] w fun e w'=>e=.returned (.bool (anyN p nK))∧Below w.heap.size w w':=by
 have C:=IndexK_any f eg p aK nK cK keys w hcK hlK hK hf
 obtain ⟨z,hz⟩:∃ z,z=fstN p nK:=⟨_,rfl⟩
 have e:=fstN_any (p:=p) nK
 rw [← hz] at C e
 have C:=Lib.hid C
 rw [← e]
 clear hK hf hz e
 go_enter Tryd.func51,Tryd.ntmps51
 repeat any_goals (first|(go_at_call 68;with_reducible refine C.out.mono ?_;rintro e w1 ⟨rfl,hb1⟩)|go_skip|go_guarded|go_step|go_upon|(dsimp only []))
 exact bodyPost_ret (v:=.bool (decide (0≤z))) (by simp [results,Tryd.results51,go_sem]) rfl ⟨rfl,zb2⟩
structure PF where
 name:ByteArray
 type:ByteArray
 number:Int
 opt:Bool
 rep:Bool
 map:Bool
instance:Inhabited PF:=⟨⟨⟨#[]⟩,⟨#[]⟩,0,false,false,false⟩⟩
def PF.cells (f:PF):List Value:=[.string f.name,.string f.type,.int .i64 f.number,.bool f.opt,.bool f.rep,.bool f.map]
structure PF.Ok (f:PF):Prop where
 n:f.name.size≤maxLen
 t:f.type.size≤maxLen
 l : -9223372036854775808≤f.number
 h:f.number < 9223372036854775808
structure PM where
 name:ByteArray
 aF:Option Addr
 nF:Nat
 cF:Nat
 F:Nat→PF
 aN:Option Addr
 nN:Nat
 cN:Nat
 N:Nat→Int
 aS:Option Addr
 nS:Nat
 cS:Nat
 S:Nat→ByteArray
instance:Inhabited PM:=⟨⟨⟨#[]⟩,none,0,0,fun _=>default,none,0,0,fun _=>0,none,0,0,fun _=>⟨#[]⟩⟩⟩
def PM.cells (m:PM):List Value:=[.string m.name,.slice m.aF m.nF m.cF,.slice m.aN m.nN m.cN,.slice m.aS m.nS m.cS]
def PM.agg (m:PM):Value:=.agg #[.string m.name,.slice m.aF m.nF m.cF,.slice m.aN m.nN m.cN,.slice m.aS m.nS m.cS]
def PF.agg (f:PF):Value:=.agg #[.string f.name,.string f.type,.int .i64 f.number,.bool f.opt,.bool f.rep,.bool f.map]
structure FIn (w:World) (a:Option Addr) (n c:Nat) (F:Nat→PF):Prop where
 l:n≤c
 lc:c≤maxLen
 c:n=0∨∃ b off,a=some ⟨b,off,none⟩∧b < w.heap.size∧∀ i,i < n→∀ j,j < 6→w.cell? ⟨b,off+i * 6+j,none⟩=(F i).cells[j]?
 o:∀ i,i < n→(F i).Ok
structure NIn (w:World) (a:Option Addr) (n c:Nat) (N:Nat→Int):Prop where
 l:n≤c
 lc:c≤maxLen
 c:n=0∨∃ b off,a=some ⟨b,off,none⟩∧b < w.heap.size∧∀ i,i < n→w.cell? ⟨b,off+i,none⟩=some (.int .i64 (N i)) ∧ -9223372036854775808≤N i∧N i < 9223372036854775808
structure SIn (w:World) (a:Option Addr) (n c:Nat) (S:Nat→ByteArray):Prop where
 l:n≤c
 lc:c≤maxLen
 c:n=0∨∃ b off,a=some ⟨b,off,none⟩∧b < w.heap.size∧∀ i,i < n→w.cell? ⟨b,off+i,none⟩=some (.string (S i))∧(S i).size≤maxLen
structure PM.In (w:World) (m:PM):Prop where
 s:m.name.size≤maxLen
 f:FIn w m.aF m.nF m.cF m.F
 n:NIn w m.aN m.nN m.cN m.N
 t:SIn w m.aS m.nS m.cS m.S
structure PL (w:World) (a:Option Addr) (n c:Nat) (M:Nat→PM):Prop where
 l:n≤c
 lc:c≤maxLen
 c:n=0∨∃ b off,a=some ⟨b,off,none⟩∧b < w.heap.size∧∀ i,i < n→∀ j,j < 4→w.cell? ⟨b,off+i * 4+j,none⟩=(M i).cells[j]?
 k:∀ i,i < n→(M i).In w
theorem FIn.below {w w':World} {a:Option Addr} {n c:Nat} {F:Nat→PF} (h:FIn w a n c F) (hb:Below w.heap.size w w'):FIn w' a n c F:=by
 refine ⟨h.l,h.lc,?_,h.o⟩
 rcases h.c with h0|⟨b,off,e,hl,hc⟩
 ·exact .inl h0
 ·exact .inr ⟨b,off,e,Nat.lt_of_lt_of_le hl hb.size,fun i hi j hj=>by rw [hb.cell (p:=⟨b,off+i * 6+j,none⟩) hl];exact hc i hi j hj⟩
theorem NIn.below {w w':World} {a:Option Addr} {n c:Nat} {N:Nat→Int} (h:NIn w a n c N) (hb:Below w.heap.size w w'):NIn w' a n c N:=by
 exact z2zk3
theorem SIn.below {w w':World} {a:Option Addr} {n c:Nat} {S:Nat→ByteArray} (h:SIn w a n c S) (hb:Below w.heap.size w w'):SIn w' a n c S:=by
 exact z2zk3
theorem PM.In.below {w w':World} {m:PM} (h:m.In w) (hb:Below w.heap.size w w'):m.In w':=⟨h.s,h.f.below hb,h.n.below hb,h.t.below hb⟩
theorem PL.below {w w':World} {a:Option Addr} {n c:Nat} {M:Nat→PM} (h:PL w a n c M) (hb:Below w.heap.size w w'):PL w' a n c M:=by
 refine ⟨h.l,h.lc,?_,fun i hi=>(h.k i hi).below hb⟩
 rcases h.c with h0|⟨b,off,e,hl,hc⟩
 ·exact .inl h0
 ·exact .inr ⟨b,off,e,Nat.lt_of_lt_of_le hl hb.size,fun i hi j hj=>by rw [hb.cell (p:=⟨b,off+i * 4+j,none⟩) hl];exact hc i hi j hj⟩
def letterN (c:Nat):Bool:=decide (97≤c∧c≤122) || decide (65≤c∧c≤90)
def digitN (c:Nat):Bool:=decide (48≤c∧c≤57)
def wordN (c:Nat):Bool:=letterN c || digitN c || decide (c=95)
def byteN (s:ByteArray) (i:Nat):Nat:=(s.get! i).toNat
def badN (s:ByteArray) (i:Nat):Bool:=!letterN (byteN s i) && (decide (i=0) || !digitN (byteN s i) && !decide (byteN s i=95))
def named (s:ByteArray):Bool:=!anyN (badN s) s.size && decide (s.size≠0)
def runN (p:Nat→Bool):Nat→Nat
 | 0=>0
 | n+1=>if runN p n=n then (if p n=true then n+1 else n) else runN p n
theorem runN_le {p:Nat→Bool}:∀ n,runN p n≤n:=by
 intro n
 induction n with
 | zero=>exact Nat.le_refl _
 | succ n ih=>
  simp only [runN]
  split
  ·split <;> omega
  ·omega
theorem runN_keep {p:Nat→Bool} {k n:Nat} (h:runN p k=k) (hp:p k=false) (hk:k < n):runN p n=k:=by
 induction n with
 | zero=>omega
 | succ n ih=>
  by_cases c:k < n
  ·have:=ih c
   simp only [runN]
   rw [this,if_neg z0b]
  ·obtain rfl:k=n:=by omega
   simp only [runN]
   rw [if_pos h,hp,if_neg Bool.false_ne_true]
theorem runN_step {p:Nat→Bool} {k:Nat} (h:runN p k=k) (hp:p k=true):runN p (k+1)=k+1:=by
 simp only [runN]
 rw [if_pos h,if_pos hp]
theorem runN_all {p:Nat→Bool} {n:Nat}:runN p n=n↔anyN (fun i => !p i) n=false:=by
 induction n with
 | zero=>exact ⟨fun _=>rfl,fun _=>rfl⟩
 | succ n ih=>
  have h2:anyN (fun i => !p i) (n+1)=(anyN (fun i => !p i) n || !p n):=rfl
  rw [h2,Bool.or_eq_false_iff,← ih]
  simp only [runN]
  have:=runN_le (p:=p) n
  by_cases c:runN p n=n
  ·rw [if_pos c]
   cases p n
   ·simp
   ·simp [c]
  ·rw [if_neg c]
   constructor
   ·omega
   ·exact fun h=>absurd h.1 c
theorem byteN_lt (s:ByteArray) (i:Nat):byteN s i < 256:=UInt8.toNat_lt _
theorem named_run (s:ByteArray):named s=(decide (s.size≠0) && letterN (byteN s 0) && decide (runN (fun i=>wordN (byteN s i)) s.size=s.size)):=by
 unfold named
 by_cases h0:s.size=0
 ·simp [h0]
 ·rw [decide_eq_true h0,Bool.and_true,Bool.true_and]
  have e:decide (runN (fun i=>wordN (byteN s i)) s.size=s.size) = !anyN (fun i => !wordN (byteN s i)) s.size:=by
   rw [Bool.eq_iff_iff,decide_eq_true_iff,runN_all,Bool.not_eq_true']
  rw [e]
  have key:∀ n,0 < n→anyN (badN s) n=(!letterN (byteN s 0) || anyN (fun i => !wordN (byteN s i)) n):=by
   intro n hn
   induction n with
   | zero=>omega
   | succ n ih=>
    have h1:anyN (badN s) (n+1)=(anyN (badN s) n || badN s n):=rfl
    have h2:anyN (fun i => !wordN (byteN s i)) (n+1)=(anyN (fun i => !wordN (byteN s i)) n || !wordN (byteN s n)):=rfl
    rw [h1,h2]
    by_cases c:0 < n
    ·rw [ih c]
     have:badN s n = !wordN (byteN s n):=by
      unfold badN wordN
      have hn0:¬ n=0:=by omega
      simp [hn0]
      cases letterN (byteN s n) <;> cases digitN (byteN s n) <;> simp
     rw [this,Bool.or_assoc]
    ·obtain rfl:n=0:=by omega
     have:badN s 0 = !letterN (byteN s 0):=by
      unfold badN
      simp
     rw [this]
     show (false || !letterN (byteN s 0))=(!letterN (byteN s 0) || (false || !wordN (byteN s 0)))
     unfold wordN
     cases letterN (byteN s 0) <;> simp
  rw [key _ z0b]
  cases letterN (byteN s 0) <;> simp
theorem letter_any (c:Nat) (w:World):Calls Tryd.prog 44 #[.int .u8 (c:Nat)] w fun e w'=>e=.returned (.bool (letterN c))∧w'=w:=by
 obtain ⟨R,hR⟩:∃ R,R=letterN c:=⟨_,rfl⟩
 rw [← hR]
 have HR:=Lib.hid hR
 clear hR
 have hd:∀ a b:Nat,a≤c→c≤b→decide (a≤c∧c≤b)=true:=fun a b h1 h2=>decide_eq_true ⟨h1,h2⟩
 go_enter Tryd.func44,Tryd.ntmps44
 by_cases h1:(97:Int)≤(c:Int)
 ·by_cases h2:(c:Int)≤122
  ·exact z2zk7
  ·have h3:(65:Int)≤(c:Int):=by omega
   have h4:¬ (c:Int)≤90:=by omega
   exact z2zk4
 ·by_cases h3:(65:Int)≤(c:Int)
  ·by_cases h4:(c:Int)≤90
   ·exact z2zk7
   ·exact z2zk4
  ·exact z2zk4
theorem digit_any (c:Nat) (w:World):Calls Tryd.prog 47 #[.int .u8 (c:Nat)] w fun e w'=>e=.returned (.bool (digitN c))∧w'=w:=by
 obtain ⟨R,hR⟩:∃ R,R=digitN c:=⟨_,rfl⟩
 rw [← hR]
 have HR:=Lib.hid hR
 clear hR
 go_enter Tryd.func47,Tryd.ntmps47
 by_cases h1:(48:Int)≤(c:Int)
 ·by_cases h2:(c:Int)≤57
  ·have e:R=true:=by rw [HR.out];unfold digitN;simp;omega
   subst e
   repeat any_goals (first|go_skip|go_guarded|go_step|go_upon|(simp only [];done))
   exact bodyPost_ret (v:=.bool true) (by simp [results,Tryd.results47,go_sem]) rfl ⟨rfl,rfl⟩
  ·exact z2zk6
 ·exact z2zk6
theorem word_any (c:Nat) (w:World):Calls Tryd.prog 46 #[.int .u8 (c:Nat)] w fun e w'=>e=.returned (.bool (wordN c))∧w'=w:=by
 have C1:=Lib.hid fun wx=>letter_any c wx
 have C2:=Lib.hid fun wx=>digit_any c wx
 unfold wordN
 generalize letterN c=x at C1 ⊢
 generalize digitN c=y at C2 ⊢
 obtain ⟨R,hR⟩:∃ R,R=(x || y || decide (c=95)):=⟨_,rfl⟩
 rw [← hR]
 have HR:=Lib.hid hR
 clear hR
 go_enter Tryd.func46,Tryd.ntmps46
 cases x with
 | true=>
  have e:R=true:=by rw [HR.out];rfl
  subst e
  repeat any_goals (first|(go_at_call 44;with_reducible refine (C1.out _).mono ?_;rintro e w1 ⟨rfl,rfl⟩)|go_skip|go_guarded|go_step|go_upon|(dsimp only []))
  exact bodyPost_ret (v:=.bool true) (by simp [results,Tryd.results46,go_sem]) rfl ⟨rfl,rfl⟩
 | false=>
  cases y with
  | true=>
   have e:R=true:=by rw [HR.out];rfl
   subst e
   exact z2zk5
  | false=>
   by_cases h:c=95
   ·have e:R=true:=by rw [HR.out,decide_eq_true h];rfl
    subst e
    have h2:(((c:Nat):Int) == 95)=true:=by rw [h];rfl
    clear h
    exact z2zk5
   ·have e:R=false:=by rw [HR.out,decide_eq_false h];rfl
    subst e
    have h2:(((c:Nat):Int) == 95)=false:=beq_false_of_ne z0b
    repeat any_goals (first|(go_at_call 44;with_reducible refine (C1.out _).mono ?_;rintro e w1 ⟨rfl,rfl⟩)|(go_at_call 47;with_reducible refine (C2.out _).mono ?_;rintro e w2 ⟨rfl,rfl⟩)|go_skip|go_guarded|go_step|go_upon|(dsimp only []))
    exact bodyPost_ret (v:=.bool false) (by simp [results,Tryd.results46,go_sem]) rfl ⟨rfl,rfl⟩
theorem byteN_at (s:ByteArray) (k:Nat) (h:k < s.size):byteN s k=(s[k]'h).toNat:=by
 obtain ⟨d⟩:=s
 show (d[k]!).toNat=_
 rw [getElem!_pos d k h]
 rfl
/-- run, with a function that looks at the byte alone -/
theorem run_any (f:FuncId) (eg:∀ args W,(callFunc f args).run Tryd.prog W=.ok (.enter f args) W) (p:Nat→Bool) (s:ByteArray) (hs:s.size≤maxLen) (w:World)
  (hf:∀ c:Nat,c < 256→∀ w':World,Calls Tryd.prog f #[.int .u8 (c:Nat)] w' fun e w2=>e=.returned (.bool (p c))∧w2=w') :
  Calls Tryd.prog 45 #[.string s,.func (.func f) #[] #[]] w fun e w'=>e=.returned (.int .i64 (runN (fun i=>p (byteN s i)) s.size:Nat))∧w'=w:=by
 have HF:=Lib.hid hf
 have eg:=Lib.hid eg
 simp only [maxLen] at hs
 clear hf
 go_enter Tryd.func45,Tryd.ntmps45
 repeat any_goals (first|go_skip|go_guarded|go_step|go_upon|(simp only [];done))
 go_loop [5] (fun i=>∃ k:Nat,k≤s.size∧i=.int .i64 k∧runN (fun i=>p (byteN s i)) k=k) (fun i=>s.size - (intOf i).toNat)
 case atStart=>exact ⟨0,Nat.zero_le _,rfl,rfl⟩
 case round=>
  obtain ⟨k,hk,rfl,hr⟩:=hrel
  have H1:=Lib.hid hr
  clear hr
  by_cases hkn:k < s.size
  ·have i1:(k:Int) < (s.size:Int):=by omega
   have i2:(0:Int)≤(k:Int):=by omega
   have i5:(k:Int).toNat=k:=rfl
   obtain ⟨x,hx⟩:∃ x,x=p (byteN s k):=⟨_,rfl⟩
   have C1:=Lib.hid fun wx=>HF.out (byteN s k) (byteN_lt s k) wx
   rw [← hx] at C1
   have HX:=Lib.hid hx
   clear hx
   rw [byteN_at s k hkn] at C1
   cases x with
   | true=>
    repeat any_goals (first|(with_reducible refine calls_at f (C1.out _) ?_;rintro e w1 ⟨rfl,rfl⟩)|go_skip|go_guarded|go_step|go_upon|(dsimp only []))
    go_round
    case rel=>exact ⟨k+1,by omega,rfl,runN_step H1.out HX.out.symm⟩
    case measure=>simp [intOf];omega
   | false=>
    repeat any_goals (first|(with_reducible refine calls_at f (C1.out _) ?_;rintro e w1 ⟨rfl,rfl⟩)|go_skip|go_guarded|go_step|go_upon|(dsimp only []))
    exact bodyPost_ret (v:=.int .i64 (k:Nat)) (by simp [results,Tryd.results45,go_sem]) rfl ⟨by rw [runN_keep (p:=fun i=>p (byteN s i)) H1.out HX.out.symm hkn],rfl⟩
  ·have hk':k=s.size:=by omega
   have i1:¬ (k:Int) < (s.size:Int):=by omega
   repeat any_goals (first|go_skip|go_guarded|go_step|go_upon|(simp only [];done))
   exact bodyPost_ret (v:=.int .i64 (k:Nat)) (by simp [results,Tryd.results45,go_sem]) rfl ⟨by rw [← hk',H1.out],rfl⟩
theorem Named_any (s:ByteArray) (hs:s.size≤maxLen) (w:World):Calls Tryd.prog 30 #[.string s] w fun e w'=>e=.returned (.bool (named s))∧w'=w:=by
 have C2:=Lib.hid (run_any 46 (enters_of Tryd.func46 z0a rfl) wordN s hs w (fun c _ w'=>word_any c w'))
 rw [named_run]
 obtain ⟨n,hn⟩:∃ n,n=runN (fun i=>wordN (byteN s i)) s.size:=⟨_,rfl⟩
 rw [← hn] at C2 ⊢
 clear hn
 go_enter Tryd.func30,Tryd.ntmps30
 by_cases h0:s.size=0
 ·have e:s=⟨#[]⟩:=by
   apply ByteArray.ext
   exact Array.eq_empty_of_size_eq_zero h0
  subst e
  repeat any_goals (first|go_skip|go_guarded|go_step|go_upon|(simp only [];done))
  exact z2zk8
 ·have C1:=Lib.hid (letter_any (byteN s 0) w)
  have h1:0 < s.size:=by omega
  rw [byteN_at s 0 h1] at C1 ⊢
  have h2:s.toList.isEmpty=false:=by
   rw [ByteArray.toList_eq,List.isEmpty_eq_false_iff]
   intro h
   have:=congrArg List.length h
   rw [Array.length_toList] at this
   exact h0 this
  generalize letterN (s[0]'h1).toNat=x at C1 ⊢
  rw [decide_eq_true h0,Bool.true_and]
  cases x with
  | false=>
   repeat any_goals (first|(go_at_call 44;with_reducible refine (C1.out).mono ?_;rintro e w1 ⟨rfl,rfl⟩)|go_skip|go_guarded|go_step|go_upon|(dsimp only []))
   exact z2zk8
  | true=>
   by_cases c:n=s.size
   ·have c1:((n:Int) == (s.size:Int))=true:=by rw [c];exact beq_self_eq_true _
    rw [decide_eq_true c]
    clear c
    repeat any_goals (first|(go_at_call 44;with_reducible refine (C1.out).mono ?_;rintro e w1 ⟨rfl,rfl⟩)|(go_at_call 45;with_reducible refine (C2.out).mono ?_;rintro e w2 ⟨rfl,rfl⟩)|go_skip|go_guarded|go_step|go_upon|(dsimp only []))
    exact bodyPost_ret (v:=.bool true) (by simp [results,Tryd.results30,go_sem]) rfl ⟨rfl,rfl⟩
   ·have c1:((n:Int) == (s.size:Int))=false:=beq_false_of_ne z0b
    rw [decide_eq_false c]
    clear c
    repeat any_goals (first|(go_at_call 44;with_reducible refine (C1.out).mono ?_;rintro e w1 ⟨rfl,rfl⟩)|(go_at_call 45;with_reducible refine (C2.out).mono ?_;rintro e w2 ⟨rfl,rfl⟩)|go_skip|go_guarded|go_step|go_upon|(dsimp only []))
    exact z2zk8
def scalarL:List (List UInt8):=[[100,111,117,98,108,101],[105,110,116,51,50],[105,110,116,54,52],[117,105,110,116,51,50],[117,105,110,116,54,52],[115,105,110,116,51,50],[115,105,110,116,54,52],[98,111,111,108],[115,116,114,105,110,103],[98,121,116,101,115]]
def scalarB (s:ByteArray):Bool:=scalarL.any fun t=>s.toList == t
/-- **Scalar** of the program -/
theorem PScalar_any (s:ByteArray) (w:World):Calls Tryd.prog 31 #[.string s] w fun e w'=>e=.returned (.bool (scalarB s))∧w'=w:=by
 have e0:scalarB s=scalarL.any fun t=>s.toList == t:=rfl
 simp only [scalarL,List.any_cons,List.any_nil,Bool.or_false] at e0
 rw [e0]
 clear e0
 obtain ⟨b0,h0⟩:∃ b,(s.toList == [100,111,117,98,108,101])=b:=⟨_,rfl⟩
 obtain ⟨b1,h1⟩:∃ b,(s.toList == [105,110,116,51,50])=b:=⟨_,rfl⟩
 obtain ⟨b2,h2⟩:∃ b,(s.toList == [105,110,116,54,52])=b:=⟨_,rfl⟩
 obtain ⟨b3,h3⟩:∃ b,(s.toList == [117,105,110,116,51,50])=b:=⟨_,rfl⟩
 obtain ⟨b4,h4⟩:∃ b,(s.toList == [117,105,110,116,54,52])=b:=⟨_,rfl⟩
 obtain ⟨b5,h5⟩:∃ b,(s.toList == [115,105,110,116,51,50])=b:=⟨_,rfl⟩
 obtain ⟨b6,h6⟩:∃ b,(s.toList == [115,105,110,116,54,52])=b:=⟨_,rfl⟩
 obtain ⟨b7,h7⟩:∃ b,(s.toList == [98,111,111,108])=b:=⟨_,rfl⟩
 obtain ⟨b8,h8⟩:∃ b,(s.toList == [115,116,114,105,110,103])=b:=⟨_,rfl⟩
 obtain ⟨b9,h9⟩:∃ b,(s.toList == [98,121,116,101,115])=b:=⟨_,rfl⟩
 rw [h0,h1,h2,h3,h4,h5,h6,h7,h8,h9]
 go_enter Tryd.func31,Tryd.ntmps31
 cases b0 with
 | true=>
  exact z2zk1
 | false=>
  cases b1 with
  | true=>
   exact z2zk1
  | false=>
   cases b2 with
   | true=>
    exact z2zk1
   | false=>
    cases b3 with
    | true=>
     exact z2zk1
    | false=>
     cases b4 with
     | true=>
      exact z2zk1
     | false=>
      cases b5 with
      | true=>
       exact z2zk1
      | false=>
       cases b6 with
       | true=>
        exact z2zk1
       | false=>
        cases b7 with
        | true=>
         exact z2zk1
        | false=>
         cases b8 with
         | true=>
          exact z2zk1
         | false=>
          cases b9 with
          | true=>
           exact z2zk1
          | false=>
           repeat any_goals (first|go_skip|go_guarded|go_step|go_upon|(simp only [];done))
           exact bodyPost_ret (v:=.bool false) z0q rfl ⟨rfl,rfl⟩
end Go.Proofs.YtfondldmmcmloaaDoor
namespace Go.Proofs.YtfondldmmcmloaaDoor
open Go.Lib
def validS (s:ByteArray):Bool:=validD s.data.toList
end Go.Proofs.YtfondldmmcmloaaDoor
