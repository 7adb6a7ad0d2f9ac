/- VT, RowV, NrA, NrB, PaP, PaO, PaR. -/
import Derived.Test.YtfondldmmcmloaaGreatDoorPb31
set_option maxRecDepth 1000000
set_option maxHeartbeats 8000000
namespace Go.Proofs.YtfondldmmcmloaaGreatDoor
open Go Go.RowKit
theorem zb1zk1 {p:Prop} (h:p:=by
 clear hf
 go_enter Tryz.func5,Tryz.ntmps5
 repeat any_goals (first|(go_at_call 6;with_reducible refine (C1.out _ zb2).mono ?_;rintro e w1 ⟨rfl,hb1⟩;(first|have V1:=Lib.hid (V0.out.below hb1)|have V1:=Lib.hid (V0.out.step hb1));obtain ⟨_,_,_,_,_,_,_,_,_,_⟩:=V1.out.all)|(go_at_call 7;with_reducible refine (C2.out _ zb2).mono ?_;rintro e w2 ⟨rfl,hb2⟩;(first|have V2:=Lib.hid (V1.out.below hb2)|have V2:=Lib.hid (V1.out.step hb2));obtain ⟨_,_,_,_,_,_,_,_,_,_⟩:=V2.out.all)|(go_at_call 15;with_reducible refine (C3.out rfl rfl _ zb2).mono ?_;rintro e w4 ⟨rfl,hb4⟩;(first|have V4:=Lib.hid (V2.out.below hb4)|have V4:=Lib.hid (V2.out.step hb4));obtain ⟨_,_,_,_,_,_,_,_,_,_⟩:=V4.out.all)|(go_at_call 8;refine (CT.out _ zb2).mono ?_;rintro e w3 ⟨rfl,hb3⟩)|go_skip|go_guarded|go_step|go_upon|(dsimp only []))
 exact bodyPost_ret (v:=.bool true) z0l1 rfl ⟨rfl,zb2⟩):p:=h
theorem zb1zk2 {p:Prop} (h:p:=by
 exact bodyPost_ret (v:=.bool true) z0l1 rfl ⟨rfl,zb2⟩):p:=h
end Go.Proofs.YtfondldmmcmloaaGreatDoor
namespace Go.Proofs.YtfondldmmcmloaaGreatDoor
open Go.RowKit
theorem maxN_le {f:Nat→Nat} {n i:Nat} (hi:i < n):f i≤maxN f n:=by
 induction n with
 | zero=>omega
 | succ n ih=>
  simp only [maxN]
  by_cases h:i < n
  ·exact Nat.le_trans (ih h) (Nat.le_max_left _ _)
  ·have:i=n:=by omega
   subst this
   exact Nat.le_max_right _ _
theorem rowK_len (keys:Nat→ByteArray) (n:Nat):(rowK keys n).length=n:=by simp [rowK]
theorem rowK_one (keys:Nat→ByteArray) (n:Nat):∀ u ∈ rowK keys n,u.oneCell'=true:=by
 intro u hu
 simp only [rowK,List.mem_map] at hu
 obtain ⟨i,-,rfl⟩:=hu
 rfl
theorem max_le {f:Nat→Nat} {n m:Nat} (h:∀ i,i < n→f i≤m):maxN f n≤m:=by
 induction n with
 | zero=>exact Nat.zero_le _
 | succ n ih=>
  simp only [maxN]
  have:=ih fun i hi=>h i z0c
  have:=h n z0c
  omega
theorem sel_no {p:Nat→Bool} {n j:Nat} (h:p n=false):selI p (n+1) j=selI p n j:=by
 simp only [selI]
 rw [if_neg (by rw [h];exact fun c=>Bool.false_ne_true c.1)]
theorem sel_lt {p:Nat→Bool} {n j k:Nat} (hjk:j < k) (h:k < cntN p n):selI p n j < selI p n k:=by
 induction n with
 | zero=>exact absurd h (Nat.not_lt_zero _)
 | succ n ih=>
  by_cases c:k < cntN p n
  ·rw [sel_old c,sel_old z0c]
   exact ih c
  ·cases e:p n with
   | false=>rw [cnt_no e] at h;omega
   | true=>
    rw [cnt_yes e] at h
    obtain rfl:k=cntN p n:=by omega
    rw [sel_new e,sel_old hjk]
    exact (sel_spec hjk).1
theorem sel_all {p:Nat→Bool} {n:Nat} (h:∀ i,i < n→p i=true):cntN p n=n∧∀ j,j < n→selI p n j=j:=by
 induction n with
 | zero=>exact ⟨rfl,fun j hj=>absurd hj (Nat.not_lt_zero _)⟩
 | succ n ih=>
  obtain ⟨h1,h2⟩:=ih fun i hi=>h i z0c
  have e:=h n z0c
  refine ⟨by rw [cnt_yes e,h1],fun j hj=>?_⟩
  by_cases c:j < n
  ·rw [sel_old z0c]
   exact h2 j c
  ·obtain rfl:j=n:=by omega
   have:=sel_new e
   rwa [h1] at this
theorem sel_sum (f:Nat→Nat) {p:Nat→Bool} {n:Nat}:sumN (fun j=>f (selI p n j)) (cntN p n)≤sumN f n:=by
 induction n with
 | zero=>exact Nat.le_refl _
 | succ n ih=>
  cases e:p n with
  | false=>
   rw [cnt_no e,sum_same (g:=fun j=>f (selI p n j)) fun j hj=>by rw [sel_no e]]
   simp only [sumN]
   omega
  | true=>
   rw [cnt_yes e]
   simp only [sumN]
   rw [sum_same (f:=fun j=>f (selI p (n+1) j)) (g:=fun j=>f (selI p n j)) fun j hj=>by rw [sel_old hj],sel_new e]
   omega
theorem max_one {f:Nat→Nat} {n i:Nat} (hi:i < n):f i≤maxN f n:=maxN_le hi
theorem less_trans:∀ x y z:List UInt8,Op.bytesLess x y=true→Op.bytesLess y z=true→Op.bytesLess x z=true:=by
 intro x
 induction x with
 | nil=>
  intro y z h1 h2
  cases z with
  | nil=>cases y <;> simp [Op.bytesLess] at h2
  | cons c z=>rfl
 | cons a x ih=>
  intro y z h1 h2
  cases y with
  | nil=>simp [Op.bytesLess] at h1
  | cons b y=>
   cases z with
   | nil=>simp [Op.bytesLess] at h2
   | cons c z=>
    simp only [Op.bytesLess,Bool.or_eq_true,decide_eq_true_eq,Bool.and_eq_true,beq_iff_eq] at h1 h2 ⊢
    rcases h1 with h1|⟨rfl,h1⟩
    ·rcases h2 with h2|⟨rfl,h2⟩
     ·exact .inl (UInt8.lt_trans h1 h2)
     ·exact .inl h1
    ·rcases h2 with h2|⟨rfl,h2⟩
     ·exact .inl h2
     ·exact .inr ⟨rfl,ih y z h1 h2⟩
theorem rise_off {keys:Nat→ByteArray} {n:Nat}:riseB keys n=true↔(∀ i,i < n→validS (keys i)=true)∧∀ i,0 < i→i < n→Op.bytesLess (keys (i - 1)).toList (keys i).toList=true:=by
 unfold riseB
 rw [Bool.not_eq_true',any_off]
 constructor
 ·intro h
  refine ⟨fun i hi=>?_,fun i h0 hi=>?_⟩
  ·have:=h i hi
   unfold badKey at this
   simp only [Bool.or_eq_false_iff,Bool.not_eq_false'] at this
   exact this.1
  ·have:=h i hi
   unfold badKey at this
   simp only [Bool.or_eq_false_iff,Bool.not_eq_false',Bool.and_eq_false_iff,decide_eq_false_iff_not] at this
   exact this.2.resolve_left (fun c=>c h0)
 ·rintro ⟨h1,h2⟩ i hi
  unfold badKey
  rw [h1 i hi]
  by_cases c:0 < i
  ·rw [h2 i c hi];simp
  ·rw [decide_eq_false c];rfl
theorem rise_far {keys:Nat→ByteArray} {n:Nat} (h:riseB keys n=true):∀ (j i:Nat),i < j→j < n→Op.bytesLess (keys i).toList (keys j).toList=true:=by
 intro j
 induction j with
 | zero=>intro i hi;omega
 | succ j ih=>
  intro i hi hj
  have h1:=(rise_off.1 h).2 (j+1) z0c hj
  rw [Nat.add_sub_cancel] at h1
  by_cases c:i=j
  ·subst c;exact h1
  ·exact less_trans _ _ _ (ih i z0c z0c) h1
theorem rise_sel {keys:Nat→ByteArray} {p:Nat→Bool} {n:Nat} (h:riseB keys n=true):riseB (fun j=>keys (selI p n j)) (cntN p n)=true:=by
 refine rise_off.2 ⟨fun i hi=>(rise_off.1 h).1 _ (sel_spec hi).1,fun i h0 hi=>?_⟩
 exact rise_far h _ _ (sel_lt z0c hi) (sel_spec hi).1
def someT (p:Nat→Bool) (aL:Option Addr) (n cL:Nat) (kids:Nat→VT) (aK:Option Addr) (cK:Nat) (keys:Nat→ByteArray):VT:=
 .mk 8 false 0 0 ⟨#[]⟩ aL (cntN p n) cL (fun j=>kids (selI p n j)) aK (cntN p n) cK (fun j=>keys (selI p n j))
theorem map_right {neg:Bool} {V bits:Nat} {text:ByteArray} {aL:Option Addr} {nL cL:Nat} {kids:Nat→VT} {aK:Option Addr} {nK cK:Nat} {keys:Nat→ByteArray} (h:(VT.mk 8 neg V bits text aL nL cL kids aK nK cK keys).right=true) :
  nK=nL∧riseB keys nK=true∧∀ i,i < nL→(kids i).right=true:=by
 obtain ⟨-,h2,h3⟩:=right_parts h
 refine ⟨h2 rfl,?_,h3⟩
 unfold VT.right at h
 rw [Bool.and_eq_true,Bool.and_eq_true] at h
 have h1:=h.1.1
 unfold midB at h1
 rw [if_neg z0e,if_pos rfl,Bool.and_eq_true] at h1
 exact h1.2
theorem some_may {neg:Bool} {V bits:Nat} {text:ByteArray} {aL:Option Addr} {n cL:Nat} {kids:Nat→VT} {aK:Option Addr} {cK:Nat} {keys:Nat→ByteArray} (h:(VT.mk 8 neg V bits text aL n cL kids aK n cK keys).may=0) (p:Nat→Bool) (aL':Option Addr) (cL':Nat) (aK':Option Addr) (cK':Nat) :
  (someT p aL' n cL' kids aK' cK' keys).may=0:=by
 obtain ⟨hd,hn,hl,hr⟩:=may_right h
 obtain ⟨-,hrise,hkr⟩:=map_right hr
 obtain ⟨⟨l1,-,-⟩,l2,l3⟩:=long_parts.1 hl
 have hc:=cnt_le (p:=p) n
 have d1:(someT p aL' n cL' kids aK' cK' keys).depth≤16:=by
  have e:maxN (fun j=>(kids (selI p n j)).depth) (cntN p n)≤maxN (fun i=>(kids i).depth) n:=max_le fun j hj=>max_one (f:=fun i=>(kids i).depth) (sel_spec hj).1
  have hd:maxN (fun i=>(kids i).depth) n+1≤16:=hd
  show maxN (fun j=>(kids (selI p n j)).depth) (cntN p n)+1≤16
  omega
 have n1:(someT p aL' n cL' kids aK' cK' keys).nodes≤10000:=by
  have e:=sel_sum (fun i=>(kids i).nodes) (p:=p) (n:=n)
  have hn:sumN (fun i=>(kids i).nodes) n+1≤10000:=hn
  show sumN (fun j=>(kids (selI p n j)).nodes) (cntN p n)+1≤10000
  omega
 have g1:(someT p aL' n cL' kids aK' cK' keys).long=false:=long_parts.2 ⟨⟨by omega,by omega,Nat.zero_le _⟩,fun j hj=>l2 _ (sel_spec hj).1,fun j hj=>l3 _ (sel_spec hj).1⟩
 have r1:(someT p aL' n cL' kids aK' cK' keys).right=true:=by
  have e:anyN (fun j => !(kids (selI p n j)).right) (cntN p n)=false:=any_off.2 fun j hj=>by rw [hkr _ (sel_spec hj).1];rfl
  have e2:=rise_sel (p:=p) hrise
  unfold someT
  simp only [VT.right,midB,eqB,bareNeg,bareV,bareB,bareT]
  rw [e,if_neg z0e,if_pos trivial,e2]
  simp
 unfold VT.may
 rw [if_neg z0c,if_neg (fun h=>h.elim (fun h=>by omega) (fun h=>by rw [g1] at h;cases h)),if_pos r1]
def memB (M:Nat→PM) (n:Nat) (kids:Nat→VT) (keys:Nat→ByteArray) (i:Nat):Bool:=decide (placeF (M 0) (keys i) < 0) || !memO (fldV (M 0) (keys i)) (kids i).kd (okT M n (kids i))
theorem map_valid (M:Nat→PM) (m:Nat) {neg:Bool} {V bits:Nat} {text:ByteArray} {aL:Option Addr} {nL cL:Nat} {kids:Nat→VT} {aK:Option Addr} {nK cK:Nat} {keys:Nat→ByteArray} (h:(VT.mk 8 neg V bits text aL nL cL kids aK nK cK keys).may=0) :
  validB M m (.mk 8 neg V bits text aL nL cL kids aK nK cK keys)=(checkB M m && !anyN (memB M m kids keys) nK):=by
 unfold validB
 rw [h,okT_msg]
 simp only [decide_true,Bool.true_and]
 rfl
theorem one_sel {n i:Nat} (hi:i < n):cntN (fun j=>j == i) n=1∧selI (fun j=>j == i) n 0=i:=by
 induction n with
 | zero=>exact absurd hi (Nat.not_lt_zero _)
 | succ n ih=>
  by_cases c:n=i
  ·subst c
   have h0:cntN (fun j=>j == n) n=0:=by
    have:∀ k,k≤n→cntN (fun j=>j == n) k=0:=by
     intro k
     induction k with
     | zero=>exact fun _=>rfl
     | succ k ih=>
      intro hk
      rw [cnt_no (p:=fun j=>j == n) z0a1,ih z0c]
    exact this n (Nat.le_refl _)
   have hy:(fun j=>j == n) n=true:=by simp
   have hs:=sel_new (p:=fun j=>j == n) hy
   rw [h0] at hs
   exact ⟨by rw [cnt_yes (p:=fun j=>j == n) hy,h0],hs⟩
  ·obtain ⟨h1,h2⟩:=ih z0c
   have hn:(fun j=>j == i) n=false:=by simp [c]
   exact ⟨by rw [cnt_no (p:=fun j=>j == i) hn,h1],by rw [sel_no (p:=fun j=>j == i) hn,h2]⟩
theorem but_sel {n k:Nat} (hk:k < n):cntN (fun j=>j != k) n=n - 1∧∀ j,j < n - 1→selI (fun j=>j != k) n j=if j < k then j else j+1:=by
 have hb:∀ m,m≤k→cntN (fun j=>j != k) m=m∧∀ j,j < m→selI (fun j=>j != k) m j=j:=fun m hm=>sel_all fun i hi=>by simp;omega
 induction n with
 | zero=>exact absurd hk (Nat.not_lt_zero _)
 | succ n ih=>
  by_cases c:n=k
  ·subst c
   have hn:(fun j=>j != n) n=false:=by simp
   obtain ⟨h1,h2⟩:=hb n (Nat.le_refl _)
   exact ⟨by rw [cnt_no (p:=fun j=>j != n) hn,h1];rfl,fun j hj=>by rw [sel_no (p:=fun j=>j != n) hn,h2 j z0c,if_pos z0c]⟩
  ·obtain ⟨h1,h2⟩:=ih z0c
   have hy:(fun j=>j != k) n=true:=by simp [c]
   refine ⟨by rw [cnt_yes (p:=fun j=>j != k) hy,h1];omega,fun j hj=>?_⟩
   by_cases d:j < n - 1
   ·rw [sel_old (p:=fun j=>j != k) (by rw [h1];exact d),h2 j d]
   ·have hs:=sel_new (p:=fun j=>j != k) hy
    rw [h1] at hs
    obtain rfl:j=n - 1:=by omega
    rw [hs,if_neg z0c]
    omega
section
variable {M:Nat→PM} {m n:Nat} {neg:Bool} {V bits:Nat} {text:ByteArray} {aL:Option Addr} {cL:Nat} {kids:Nat→VT} {aK:Option Addr} {cK:Nat} {keys:Nat→ByteArray}
theorem valid_one (h:(VT.mk 8 neg V bits text aL n cL kids aK n cK keys).may=0) {i:Nat} (hi:i < n) (aL':Option Addr) (cL':Nat) (aK':Option Addr) (cK':Nat) :
  validB M m (someT (fun j=>j == i) aL' n cL' kids aK' cK' keys)=(checkB M m && !memB M m kids keys i):=by
 have h1:=some_may h (fun j=>j == i) aL' cL' aK' cK'
 obtain ⟨e1,e2⟩:=one_sel hi
 unfold someT at h1 ⊢
 rw [map_valid M m h1,e1]
 show (checkB M m && !(false || memB M m kids keys (selI (fun j=>j == i) n 0)))=_
 rw [e2,Bool.false_or]
theorem valid_but (h:(VT.mk 8 neg V bits text aL n cL kids aK n cK keys).may=0) (p:Nat→Bool) (aL':Option Addr) (cL':Nat) (aK':Option Addr) (cK':Nat) (hv:validB M m (.mk 8 neg V bits text aL n cL kids aK n cK keys)=true) :
  validB M m (someT p aL' n cL' kids aK' cK' keys)=true:=by
 rw [map_valid M m h,Bool.and_eq_true,Bool.not_eq_true',any_off] at hv
 have h1:=some_may h p aL' cL' aK' cK'
 unfold someT at h1 ⊢
 rw [map_valid M m h1,hv.1,Bool.true_and,Bool.not_eq_true',any_off]
 exact fun j hj=>hv.2 _ (sel_spec hj).1
def soFar (M:Nat→PM) (m:Nat) (kids:Nat→VT) (keys:Nat→ByteArray):Nat→Bool
 | 0=>true
 | i+1=>soFar M m kids keys i && (checkB M m && !memB M m kids keys i)
theorem so_far (i:Nat):soFar M m kids keys i=(decide (i=0) || (checkB M m && !anyN (memB M m kids keys) i)):=by
 induction i with
 | zero=>rfl
 | succ i ih=>
  show (soFar M m kids keys i && (checkB M m && !memB M m kids keys i))=_
  rw [ih]
  have e:anyN (memB M m kids keys) (i+1)=(anyN (memB M m kids keys) i || memB M m kids keys i):=rfl
  rw [e]
  have e0:decide (i+1=0)=false:=by simp
  rw [e0]
  cases i with
  | zero=>
   have e1:anyN (memB M m kids keys) 0=false:=rfl
   rw [e1]
   simp
  | succ i=>
   have e2:decide (i+1=0)=false:=by simp
   rw [e2]
   cases checkB M m <;> cases anyN (memB M m kids keys) (i+1) <;> cases memB M m kids keys (i+1) <;> rfl
theorem so_all (h:(VT.mk 8 neg V bits text aL n cL kids aK n cK keys).may=0) (hn:0 < n):soFar M m kids keys n=validB M m (.mk 8 neg V bits text aL n cL kids aK n cK keys):=by
 rw [so_far,map_valid M m h,decide_eq_false (show ¬ n=0 by omega),Bool.false_or]
end
open Go
theorem Parts_out (a:Option Addr) (n c:Nat) (kind:Int) (neg:Bool) (V bits:Nat) (text:ByteArray) (aL:Option Addr) (nL cL:Nat) (aK:Option Addr) (nK cK:Nat) (wh:Int) (f1 f2:Bool) (z:Int) (hf:f1=false∨f2=false∨¬ kind=8∨¬ z=0∨nK=0) (w:World)
  (C1:Hid (∀ wr:World,Below w.heap.size w wr→Calls Tryz.prog 6 #[.slice a n c] wr fun e w'=>e=.returned (.bool f1)∧Below wr.heap.size wr w'))
  (C2:Hid (∀ wr:World,Below w.heap.size w wr→Calls Tryz.prog 7 #[.agg #[.int .i64 kind,.bool neg,.int .u64 (lm V 0:Nat),.int .u64 (lm V 1:Nat),.int .u64 (lm V 2:Nat),.int .u64 (lm V 3:Nat),.int .u64 (bits:Nat),.string text,.slice aL nL cL,.slice aK nK cK]] wr fun e w'=>e=.returned (.bool f2)∧Below wr.heap.size wr w'))
  (C3:Hid (f1=true→f2=true→∀ wr:World,Below w.heap.size w wr→Calls Tryz.prog 15 #[.agg #[.int .i64 kind,.bool neg,.int .u64 (lm V 0:Nat),.int .u64 (lm V 1:Nat),.int .u64 (lm V 2:Nat),.int .u64 (lm V 3:Nat),.int .u64 (bits:Nat),.string text,.slice aL nL cL,.slice aK nK cK]] wr fun e w'=>e=.returned (.int .i64 z)∧Below wr.heap.size wr w'))
  (CT:Hid (∀ wr:World,Below w.heap.size w wr→Calls Tryz.prog 8 #[] wr fun e w'=>e=.returned (.bool true)∧Below wr.heap.size wr w')) :
  Calls Tryz.prog 5 #[.slice a n c,.agg #[.int .i64 kind,.bool neg,.int .u64 (lm V 0:Nat),.int .u64 (lm V 1:Nat),.int .u64 (lm V 2:Nat),.int .u64 (lm V 3:Nat),.int .u64 (bits:Nat),.string text,.slice aL nL cL,.slice aK nK cK],.int .i64 wh] w fun e w'=>e=.returned (.bool true)∧Below w.heap.size w w':=by
 have V0:=Lib.hid (vbx_new w 31 kind neg V bits text aL nL cL aK nK cK)
 cases f1 with
 | false=>
  go_enter Tryz.func5,Tryz.ntmps5
  repeat any_goals (first|(go_at_call 6;refine (C1.out _ zb2).mono ?_;rintro e w1 ⟨rfl,hb1⟩)|(go_at_call 8;refine (CT.out _ zb2).mono ?_;rintro e w3 ⟨rfl,hb3⟩)|go_skip|go_guarded|go_step|go_upon|(dsimp only []))
  exact zb1zk2
 | true=>
  cases f2 with
  | false=>
   go_enter Tryz.func5,Tryz.ntmps5
   repeat any_goals (first|(go_at_call 6;with_reducible refine (C1.out _ zb2).mono ?_;rintro e w1 ⟨rfl,hb1⟩;(first|have V1:=Lib.hid (V0.out.below hb1)|have V1:=Lib.hid (V0.out.step hb1));obtain ⟨_,_,_,_,_,_,_,_,_,_⟩:=V1.out.all)|(go_at_call 7;refine (C2.out _ zb2).mono ?_;rintro e w2 ⟨rfl,hb2⟩)|(go_at_call 8;refine (CT.out _ zb2).mono ?_;rintro e w3 ⟨rfl,hb3⟩)|go_skip|go_guarded|go_step|go_upon|(dsimp only []))
   exact zb1zk2
  | true=>
   by_cases hk:kind=8
   ·subst hk
    by_cases hz:z=0
    ·subst hz
     have h0:nK=0:=by simpa using hf
     subst h0
     exact zb1zk1
    ·have hz2:(z == 0)=false:=by simp [hz]
     exact zb1zk1
   ·have hk2:(kind == 8)=false:=by simp [hk]
    clear hf
    go_enter Tryz.func5,Tryz.ntmps5
    repeat any_goals (first|(go_at_call 6;with_reducible refine (C1.out _ zb2).mono ?_;rintro e w1 ⟨rfl,hb1⟩;(first|have V1:=Lib.hid (V0.out.below hb1)|have V1:=Lib.hid (V0.out.step hb1));obtain ⟨_,_,_,_,_,_,_,_,_,_⟩:=V1.out.all)|(go_at_call 7;with_reducible refine (C2.out _ zb2).mono ?_;rintro e w2 ⟨rfl,hb2⟩;(first|have V2:=Lib.hid (V1.out.below hb2)|have V2:=Lib.hid (V1.out.step hb2));obtain ⟨_,_,_,_,_,_,_,_,_,_⟩:=V2.out.all)|(go_at_call 8;refine (CT.out _ zb2).mono ?_;rintro e w3 ⟨rfl,hb3⟩)|go_skip|go_guarded|go_step|go_upon|(dsimp only []))
    exact zb1zk2
theorem in_block {w w':World} {v v':Value} {n m base size:Nat} {e:TypeId} {xs:List Value} (hv:InBlock v n) (h:w'.ownsRow base e size v' m xs) (hb:v'.ownBlock=v.ownBlock∨v'.ownBlock=some w.heap.size):InBlock v' m:=by
 obtain ⟨g,c',rfl⟩:=hv
 rcases h.2 with ⟨rfl,-⟩|⟨g',cap,cur,e1,-⟩
 ·rcases hb with hb|hb <;> cases hb
 ·exact ⟨g',cap,e1⟩
theorem row_same {w w':World} {b:Nat} {e:TypeId} {s:Nat} {v:Value} {n:Nat} {xs:List Value} (h:w.ownsRow b e s v n xs) (k:∀ g,v.ownBlock=some g→w'.heap[g]? = w.heap[g]?):w'.ownsRow b e s v n xs:=by
 refine ⟨h.1,?_⟩
 rcases h.2 with hn|⟨g,cap,cur,rfl,h1,hg,rest⟩
 ·exact .inl hn
 ·exact .inr ⟨g,cap,cur,rfl,h1,by rw [k g rfl];exact hg,rest⟩
theorem newsK {w:World} {b o n:Nat} {keys:Nat→ByteArray} (h:∀ i,i < n→w.cell? ⟨b,o+i,none⟩=some (.string (keys i))):∀ j u,(rowK keys n)[j]? = some u→w.cell? ((⟨b,o,none⟩:Addr).add j)=some u:=by
 intro j u hu
 have hj:j < n:=by
  have:=(List.getElem?_eq_some_iff.1 hu).1
  rwa [rowK_len] at this
 rw [rowK_get hj] at hu
 rw [addr_at,← hu]
 exact h j hj
theorem newsV {w:World} {b o n:Nat} {kids:Nat→VT} (h10:∀ i,i < n→(kids i).cells.length=10) (h:∀ i,i < n→∀ j,j < 10→w.cell? ⟨b,o+i * 10+j,none⟩=(kids i).cells[j]?):∀ j u,(rowV kids n)[j]? = some u→w.cell? ((⟨b,o,none⟩:Addr).add j)=some u:=by
 intro j u hu
 have hj:j < n * 10:=by
  have:=(List.getElem?_eq_some_iff.1 hu).1
  rwa [rowV_len h10] at this
 have e:=rowV_get h10 (show j / 10 < n by omega) (show j % 10 < 10 by omega)
 rw [show j / 10 * 10+j % 10=j by omega] at e
 rw [e] at hu
 rw [addr_at,show o+j=o+j / 10 * 10+j % 10 by omega,h _ z0c _ z0c]
 exact hu
theorem rowK_but {keys:Nat→ByteArray} {n k j:Nat} (hk:k < n) (hj:j < n - 1):(rowK keys k ++ rowK (fun i=>keys (k+1+i)) (n - (k+1)))[j]? = some (.string (keys (if j < k then j else j+1))):=by
 by_cases c:j < k
 ·rw [List.getElem?_append_left (by rw [rowK_len];exact c),rowK_get c,if_pos c]
 ·rw [List.getElem?_append_right (by rw [rowK_len];omega),rowK_len,rowK_get z0c,if_neg c,show k+1+(j - k)=j+1 by omega]
theorem rowV_but {kids:Nat→VT} {n k j i:Nat} (h10:∀ i,i < n→(kids i).cells.length=10) (hk:k < n) (hj:j < n - 1) (hi:i < 10):(rowV kids k ++ rowV (fun i=>kids (k+1+i)) (n - (k+1)))[j * 10+i]? = (kids (if j < k then j else j+1)).cells[i]? := by
 have hl:=rowV_len (kids:=kids) (n:=k) fun i hi=>h10 i z0c
 by_cases c:j < k
 ·rw [List.getElem?_append_left (by rw [hl];omega),rowV_get (fun i hi=>h10 i z0c) c hi,if_pos c]
 ·rw [List.getElem?_append_right (by rw [hl];omega),hl,show j * 10+i - k * 10=(j - k) * 10+i by omega,rowV_get (kids:=fun i=>kids (k+1+i)) (fun i hi=>h10 _ z0c) (show j - k < n - (k+1) by omega) hi,if_neg c,show k+1+(j - k)=j+1 by omega]
theorem but_in {w:World} {b n k gl cl gk ck:Nat} {kids:Nat→VT} {keys:Nat→ByteArray} (hk:k < n) (hI:∀ i,i < n→(kids i).In w) (hS:∀ i,i < n→(keys i).size≤maxLen)
  (RK:w.ownsRow b 9 1 (.slice (some ⟨gk,0,none⟩) (k+(n - (k+1))) ck) (k+(n - (k+1))) (rowK keys k ++ rowK (fun i=>keys (k+1+i)) (n - (k+1))))
  (RL:w.ownsRow b 31 10 (.slice (some ⟨gl,0,none⟩) (k+(n - (k+1))) cl) (k+(n - (k+1))) (rowV kids k ++ rowV (fun i=>kids (k+1+i)) (n - (k+1)))) :
  (someT (fun j=>j != k) (some ⟨gl,0,none⟩) n cl kids (some ⟨gk,0,none⟩) ck keys).In w:=by
 obtain ⟨e1,e2⟩:=but_sel hk
 have em:k+(n - (k+1))=n - 1:=by omega
 rw [em] at RK RL
 have hcap:∀ {e:TypeId} {s g c:Nat} {xs:List Value},w.ownsRow b e s (.slice (some ⟨g,0,none⟩) (n - 1) c) (n - 1) xs→n - 1≤c∧c≤maxLen∧g < w.heap.size:=fun h=>by
  have hl:=(h.lt _ rfl).2
  rcases h.2 with ⟨e1,-⟩|⟨g',cap,cur,e1,-,-,h2,h3,-⟩
  ·cases e1
  ·injection e1 with _ _ e3
   subst e3
   exact ⟨h2,h3,hl⟩
 obtain ⟨k1,k2,k3⟩:=hcap RK
 obtain ⟨l1,l2,l3⟩:=hcap RL
 have h10:∀ i,i < n→(kids i).cells.length=10:=fun i hi=>cells_len (hI i hi)
 have hif:∀ j,j < n - 1→(if j < k then j else j+1) < n:=fun j hj=>by split <;> omega
 unfold someT
 refine ⟨⟨by decide,by decide,by decide,by decide,Nat.zero_le _,by rw [e1];exact l1,l2,by rw [e1];exact k1,k2⟩,.inr ⟨gl,0,rfl,l3,fun j hj i hi=>?_⟩,fun j hj=>hI _ (sel_spec hj).1,.inr ⟨gk,0,rfl,k3,fun j hj=>?_⟩⟩
 ·rw [e1] at hj
  show w.cell? ⟨gl,0+j * 10+i,none⟩=(kids (selI (fun j=>j != k) n j)).cells[i]?
  rw [e2 j hj]
  have e3:=rowV_but h10 hk hj hi
  have hlen:i < (kids (if j < k then j else j+1)).cells.length:=by rw [h10 _ (hif j hj)];exact hi
  rw [List.getElem?_eq_getElem hlen] at e3 ⊢
  have h4:=RL.cells (g:=gl) rfl _ _ e3
  rw [addr_at] at h4
  rw [← h4,Nat.add_assoc]
 ·rw [e1] at hj
  show w.cell? ⟨gk,0+j,none⟩=some (.string (keys (selI (fun j=>j != k) n j)))∧_
  rw [e2 j hj]
  have e3:=rowK_but (keys:=keys) hk hj
  have h4:=RK.cells (g:=gk) rfl _ _ e3
  rw [addr_at] at h4
  exact ⟨h4,by show (keys (selI (fun j=>j != k) n j)).size≤maxLen;rw [e2 j hj];exact hS _ (hif j hj)⟩
theorem wrap_small {x:Int} (h0:0≤x) (h1:x < 9223372036854775808):IntKind.i64.wrap x=x:=by
 unfold IntKind.wrap
 simp [IntKind.signed,IntKind.bits]
 omega
theorem which_lt (x:Int) {n:Nat} (h0:0 < n) (hn:n < 9223372036854775808):∃ k:Nat,k < n∧wrap64 ((IntKind.u64.wrap x).tmod (n:Int))=(k:Int):=by
 have h1:0≤IntKind.u64.wrap x:=by
  unfold IntKind.wrap
  simp [IntKind.signed,IntKind.bits]
  omega
 obtain ⟨y,hy⟩:∃ y:Nat,IntKind.u64.wrap x=y:=⟨(IntKind.u64.wrap x).toNat,by omega⟩
 rw [hy]
 have e:((y:Int)).tmod (n:Int)=((y % n:Nat):Int):=rfl
 have hl:=Nat.mod_lt y h0
 refine ⟨y % n,hl,?_⟩
 rw [e]
 unfold wrap64
 omega
section
variable {w0 wq:World} {B Bw:Nat} {a0 a1 a2 a3 a4 a5 a6 a7 a8 a9 v0 v1 v2 v3 v4 v5 v6 v7 v8 v9:Value}
theorem set10_below {b:Nat} (h:Below b w0 wq) (hb:b≤Bw) :
  Below b w0 ((((((((((wq.setCell ⟨Bw,0,none⟩ v0).setCell ⟨Bw,1,none⟩ v1).setCell ⟨Bw,2,none⟩ v2).setCell ⟨Bw,3,none⟩ v3).setCell ⟨Bw,4,none⟩ v4).setCell ⟨Bw,5,none⟩ v5).setCell ⟨Bw,6,none⟩ v6).setCell ⟨Bw,7,none⟩ v7).setCell ⟨Bw,8,none⟩ v8).setCell ⟨Bw,9,none⟩ v9):=
 Below.setCell (Below.setCell (Below.setCell (Below.setCell (Below.setCell (Below.setCell (Below.setCell (Below.setCell (Below.setCell (Below.setCell h hb _) hb _) hb _) hb _) hb _) hb _) hb _) hb _) hb _) hb _
theorem set10_rbx (Z:WBx wq Bw a0 a1 a2 a3 a4 a5 a6 a7 a8 a9) :
  RBx ((((((((((wq.setCell ⟨Bw,0,none⟩ v0).setCell ⟨Bw,1,none⟩ v1).setCell ⟨Bw,2,none⟩ v2).setCell ⟨Bw,3,none⟩ v3).setCell ⟨Bw,4,none⟩ v4).setCell ⟨Bw,5,none⟩ v5).setCell ⟨Bw,6,none⟩ v6).setCell ⟨Bw,7,none⟩ v7).setCell ⟨Bw,8,none⟩ v8).setCell ⟨Bw,9,none⟩ v9) Bw v0 v1 v2 v3 v4 v5 v6 v7 v8 v9:=by
 obtain ⟨h0,h1,h2,h3,h4,h5,h6,h7,h8,h9⟩:=Z.c.all
 have hs:∀ j,j < 10→(wq.cell? ⟨Bw,0+j,none⟩).isSome=true:=by
  intro j hj
  rw [Nat.zero_add]
  match j,hj with
  | 0,_=>rw [h0];rfl
  | 1,_=>rw [h1];rfl
  | 2,_=>rw [h2];rfl
  | 3,_=>rw [h3];rfl
  | 4,_=>rw [h4];rfl
  | 5,_=>rw [h5];rfl
  | 6,_=>rw [h6];rfl
  | 7,_=>rw [h7];rfl
  | 8,_=>rw [h8];rfl
  | 9,_=>rw [h9];rfl
  | j+10,hj=>omega
 obtain ⟨-,-,hc,-⟩:=set10_at (o:=0) (v0:=v0) (v1:=v1) (v2:=v2) (v3:=v3) (v4:=v4) (v5:=v5) (v6:=v6) (v7:=v7) (v8:=v8) (v9:=v9) Z.f hs _ rfl
 exact ⟨hc 0 z0e,hc 1 z0e,hc 2 z0e,hc 3 z0e,hc 4 z0e,hc 5 z0e,hc 6 z0e,hc 7 z0e,hc 8 z0e,hc 9 z0e⟩
end
end Go.Proofs.YtfondldmmcmloaaGreatDoor
