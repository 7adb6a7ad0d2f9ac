/- NrE, NrH, To23, VOpen, Frame6. -/
import Derived.SliceStrings
import Derived.Laws.IdiomArrays
import Derived.ProofKit
import Derived.OpenShut
import Derived.Deep.DeepHandedRow
import Derived.Lib.LaidTab
import Derived.Lib.LaidU8T
import Derived.Carry
import Derived.ChangeOld
import Derived.Test.YtfondldmmcmloaaDoorCards
import Derived.Test.YtfondldmmcmloaaDoorTie
import Derived.Test.YtfondldmmcmloaaDoorPd27
import Derived.Test.YtfondldmmcmloaaDoorPd28
set_option maxRecDepth 1000000
set_option maxHeartbeats 8000000
namespace Go.Proofs.YtfondldmmcmloaaDoor
open Go.RowKit
theorem PNormV_any (M:Nat→PM) (a:Option Addr) (n c:Nat) (T:VT) (w:World) (hL:PL w a n c M) (hin:T.In w) (hU:U8T w) (hT:Tab w) (hN:T.nodes < 4611686018427387904) :
  Calls Tryd.prog 10 #[.slice a n c,T.agg] w (NormQ w T ((nrm2 M n T).msg (M 0)) (validB M n T)):=by
 have C1:=Lib.hid fun wx (hx:Below w.heap.size w wx)=>PValidM_any M a n c T wx (hL.below hx) (VT.In.below hx _ hin) (Utf8Tabs_below hU hx) (hT.below hx) hN
 by_cases hv:validB M n T=true
 ·rw [hv] at C1 ⊢
  have hck:checkB M n=true:=by
   unfold validB at hv
   rw [Bool.and_eq_true] at hv
   exact hv.1
  have hNx:=(pnorm_all M a n c (check_types hck) (check_noscal hck) T).1
  cases T with
  | nil=>exact hin.elim
  | mk kind neg V bits text aL nL cL kids aK nK cK keys=>
   refine (PNorm_yes M a n c kind neg V bits text aL nL cL kids aK nK cK keys w hL hin hv hNx C1).mono ?_
   rintro e w' ⟨t,he,ht,hb⟩
   exact ⟨t,he,ht.i,fun _=>ht,fun h=>(by cases h),hb⟩
 ·rw [Bool.not_eq_true] at hv
  rw [hv] at C1 ⊢
  cases T with
  | nil=>exact hin.elim
  | mk kind neg V bits text aL nL cL kids aK nK cK keys=>
   refine (PNorm_no a n c kind neg V bits text aL nL cL aK nK cK w C1).mono ?_
   rintro e w' ⟨he,hb⟩
   exact ⟨zeroT,by rw [he];simp [zeroT,VT.agg,VT.cells,lm_none],zeroT_in w',fun h=>(by cases h),fun _=>rfl,hb⟩
open Go
def tolS:ByteArray:=⟨#[115,121,110,116,97,120,32,61,32,34,112,114,111,116,111,51,34,59,32,109,101,115,115,97,103,101,32,77,32,123,32,105,110,116,51,50,32,120,32,61,32,49,59,32,125]⟩
def pfX:PF:=⟨⟨#[120]⟩,⟨#[105,110,116,51,50]⟩,1,false,false,false⟩
def tolL:List MB:=[⟨⟨#[77]⟩,[pfX],[],[]⟩]
theorem tol_read:loadR tolS=some tolL:=by kernel_rfl
theorem tol_check (A:Nat→Ad6):checkI (pmsOf tolL A) 1=0:=by kernel_rfl
def flatV (kind:Int) (neg:Bool) (V bits:Nat) (text:ByteArray):VT:=.mk kind neg V bits text none 0 0 (fun _=>.nil) none 0 0 (fun _=>⟨#[]⟩)
def recX (a b:Nat) (x:VT):VT:=.mk 8 false 0 0 ⟨#[]⟩ (some ⟨a,0,none⟩) 1 1 (fun _=>x) (some ⟨b,0,none⟩) 1 1 (fun _=>⟨#[120]⟩)
theorem tol_valid (A:Nat→Ad6) (a b:Nat):validB (pmsOf tolL A) 1 (recX a b (flatV 3 false 0 0 ⟨#[]⟩))=true:=by kernel_rfl
theorem tol_null (A:Nat→Ad6):validB (pmsOf tolL A) 1 (flatV 1 false 0 0 ⟨#[]⟩)=false:=by kernel_rfl
theorem tol_norm (A:Nat→Ad6) (a b:Nat) {t:VT} (h:Sim t ((nrm2 (pmsOf tolL A) 1 (recX a b (flatV 3 false 0 0 ⟨#[]⟩))).msg (pmsOf tolL A 0))):∃ neg V bits text aL nL cL kids aK cK keys,t=.mk 8 neg V bits text aL nL cL kids aK 0 cK keys:=by
 cases t with
 | nil=>exact h.nil_l.elim
 | mk kind neg V bits text aL nL cL kids aK nK cK keys=>
  unfold recX at h
  rw [nrm_msg] at h
  obtain ⟨⟨rfl,-,-,-,-,-,hk⟩,-,-⟩:=sim_mk.1 h
  have e:nK=0:=hk.trans z0a
  subst e
  exact ⟨_,_,_,_,_,_,_,_,_,_,_,rfl⟩
theorem flat_in (w:World) (kind:Int) (neg:Bool) (V bits:Nat) (text:ByteArray) (h:VOwn kind V bits text 0 0 0 0):(flatV kind neg V bits text).In w:=⟨h,.inl rfl,fun _ hi=>absurd hi (Nat.not_lt_zero _),.inl rfl⟩
theorem rec_in {w:World} {a b:Nat} {x:VT} (hx:x.In w) (ha:a < w.heap.size) (hb:b < w.heap.size) (hc:∀ j,j < 10→w.cell? ⟨a,j,none⟩=x.cells[j]?) (hk:w.cell? ⟨b,0,none⟩=some (.string ⟨#[120]⟩)):(recX a b x).In w:=by
 refine ⟨⟨by decide,by decide,by decide,by decide,Nat.zero_le _,Nat.le_refl _,by decide,Nat.le_refl _,by decide⟩,.inr ⟨a,0,rfl,ha,fun i hi j hj=>?_⟩,fun _ _=>hx,.inr ⟨b,0,rfl,hb,fun i hi=>?_⟩⟩
 ·obtain rfl:i=0:=by omega
  rw [Nat.zero_mul,Nat.zero_add]
  exact hc j hj
 ·obtain rfl:i=0:=by omega
  exact ⟨hk,by decide⟩
/-- **told** -/
theorem told23_any (w:World) (hU:U8T w) (hT:Tab w):Calls Tryd.prog 8 #[] w fun e w'=>e=.returned (.bool true)∧Below w.heap.size w w':=by
 have CL:Hid (Calls Tryd.prog 5 #[.string ⟨#[115,121,110,116,97,120,32,61,32,34,112,114,111,116,111,51,34,59,32,109,101,115,115,97,103,101,32,77,32,123,32,105,110,116,51,50,32,120,32,61,32,49,59,32,125]⟩] w fun e w'=>∃ (a:Option Addr) (c:Nat) (A:Nat→Ad6),e=.returned (.tuple #[.slice a 1 c,.int .i64 0])∧PL w' a 1 c (pmsOf tolL A)∧Below w.heap.size w w'):=Lib.hid ((RLoad_any tolS z0g w).mono fun e w' h=>by
  rcases h with ⟨hb,⟨h1,-⟩|⟨l,a,c,A,h1,h2,h3⟩⟩
  ·rw [tol_read] at h1;cases h1
  ·rw [tol_read] at h1
   injection h1 with h1
   subst h1
   rcases h3 with ⟨-,h4⟩|⟨h4,-⟩
   ·exact ⟨a,c,A,h4,h2,hb⟩
   ·exact absurd (tol_check A) h4)
 go_enter Tryd.func8,Tryd.ntmps8
 go_upto_region 2 with (go_at_call 5;with_reducible refine CL.out.mono ?_;rintro e w1 ⟨a,c,A,rfl,hPL,hb1⟩;have HPL:=Lib.hid hPL;clear hPL)
 go_upto_region 3 with fail
 obtain ⟨W3,hW3⟩:∃ x,x=(((w1.alloc (.cells #[.string ⟨#[120]⟩] 9)).alloc (.cells #[.int .i64 3,.bool false,.int .u64 0,.int .u64 0,.int .u64 0,.int .u64 0,.int .u64 0,.string ⟨#[]⟩,.slice none 0 0,.slice none 0 0] 35)).alloc (.cells #[.int .i64 8,.bool false,.int .u64 0,.int .u64 0,.int .u64 0,.int .u64 0,.int .u64 0,.string ⟨#[]⟩,.slice (some ⟨w1.heap.size+1,0,none⟩) 1 1,.slice (some ⟨w1.heap.size,0,none⟩) 1 1] 35)):=⟨_,rfl⟩
 have hx3:Below w1.heap.size w1 W3:=by rw [hW3];exact zb2
 have hsz:W3.heap.size=w1.heap.size+3:=by rw [hW3];simp
 have hin:(recX (w1.heap.size+1) w1.heap.size (flatV 3 false 0 0 ⟨#[]⟩)).In W3:=by
  refine rec_in (flat_in _ _ _ _ _ _ ⟨by decide,by decide,by decide,by decide,Nat.zero_le _,Nat.le_refl _,Nat.zero_le _,Nat.le_refl _,Nat.zero_le _⟩) z0b z0b (fun j hj=>?_) (by rw [hW3];simp [go_sem])
  rw [hW3]
  match j with
  | 0=>simp [go_sem];rfl
  | 1=>simp [go_sem];rfl
  | 2=>simp [go_sem];rfl
  | 3=>simp [go_sem];rfl
  | 4=>simp [go_sem];rfl
  | 5=>simp [go_sem];rfl
  | 6=>simp [go_sem];rfl
  | 7=>simp [go_sem];rfl
  | 8=>simp [go_sem];rfl
  | 9=>simp [go_sem];rfl
  | j+10=>omega
 have X3:Hid (RBx W3 (w1.heap.size+1+1) (.int .i64 8) (.bool false) (.int .u64 0) (.int .u64 0) (.int .u64 0) (.int .u64 0) (.int .u64 0) (.string ⟨#[]⟩) (.slice (some ⟨w1.heap.size+1,0,none⟩) 1 1) (.slice (some ⟨w1.heap.size,0,none⟩) 1 1)):=by rw [hW3];exact Lib.hid ⟨by simp [go_sem]⟩
 rw [← hW3]
 clear hW3
 have hB1:=below_trans hb1 hx3
 have CN:Hid (∀ wx:World,Below W3.heap.size W3 wx→Calls Tryd.prog 10 #[.slice a 1 c,.agg #[.int .i64 8,.bool false,.int .u64 0,.int .u64 0,.int .u64 0,.int .u64 0,.int .u64 0,.string ⟨#[]⟩,.slice (some ⟨w1.heap.size+1,0,none⟩) 1 1,.slice (some ⟨w1.heap.size,0,none⟩) 1 1]] wx fun e w'=>∃ (neg:Bool) (V bits:Nat) (text:ByteArray) (aL:Option Addr) (nL cL:Nat) (aK:Option Addr) (cK:Nat),e=.returned (.tuple #[.agg #[.int .i64 8,.bool neg,.int .u64 (lm V 0:Nat),.int .u64 (lm V 1:Nat),.int .u64 (lm V 2:Nat),.int .u64 (lm V 3:Nat),.int .u64 (bits:Nat),.string text,.slice aL nL cL,.slice aK 0 cK],.bool true])∧Below wx.heap.size wx w'):=Lib.hid fun wx hx=>by
  have h:=PNormV_any (pmsOf tolL A) a 1 c (recX (w1.heap.size+1) w1.heap.size (flatV 3 false 0 0 ⟨#[]⟩)) wx (HPL.out.below (below_trans hx3 hx)) (VT.In.below hx _ hin) (Utf8Tabs_below hU (below_trans hB1 hx)) (hT.below (below_trans hB1 hx)) (show (2:Nat) < 4611686018427387904 by decide)
  rw [tol_valid] at h
  refine h.mono ?_
  rintro e w' ⟨t,rfl,h1,h2,-,h4⟩
  obtain ⟨neg,V,bits,text,aL,nL,cL,kids,aK,cK,keys,rfl⟩:=tol_norm A _ _ (h2 rfl).s
  exact ⟨neg,V,bits,text,aL,nL,cL,aK,cK,rfl,h4⟩
 have CV:Hid (∀ wx:World,Below W3.heap.size W3 wx→Calls Tryd.prog 9 #[.slice a 1 c,.agg #[.int .i64 8,.bool false,.int .u64 0,.int .u64 0,.int .u64 0,.int .u64 0,.int .u64 0,.string ⟨#[]⟩,.slice (some ⟨w1.heap.size+1,0,none⟩) 1 1,.slice (some ⟨w1.heap.size,0,none⟩) 1 1]] wx fun e w'=>e=.returned (.bool true)∧Below wx.heap.size wx w'):=Lib.hid fun wx hx=>by
  have h:=PValidM_any (pmsOf tolL A) a 1 c (recX (w1.heap.size+1) w1.heap.size (flatV 3 false 0 0 ⟨#[]⟩)) wx (HPL.out.below (below_trans hx3 hx)) (VT.In.below hx _ hin) (Utf8Tabs_below hU (below_trans hB1 hx)) (hT.below (below_trans hB1 hx)) (show (2:Nat) < 4611686018427387904 by decide)
  rw [tol_valid] at h
  exact h
 have C0:Hid (∀ wx:World,Below W3.heap.size W3 wx→Calls Tryd.prog 9 #[.slice a 1 c,.agg #[.int .i64 1,.bool false,.int .u64 0,.int .u64 0,.int .u64 0,.int .u64 0,.int .u64 0,.string ⟨#[]⟩,.slice none 0 0,.slice none 0 0]] wx fun e w'=>e=.returned (.bool false)∧Below wx.heap.size wx w'):=Lib.hid fun wx hx=>by
  have h:=PValidM_any (pmsOf tolL A) a 1 c (flatV 1 false 0 0 ⟨#[]⟩) wx (HPL.out.below (below_trans hx3 hx)) (flat_in _ _ _ _ _ _ ⟨by decide,by decide,by decide,by decide,Nat.zero_le _,Nat.le_refl _,Nat.zero_le _,Nat.le_refl _,Nat.zero_le _⟩) (Utf8Tabs_below hU (below_trans hB1 hx)) (hT.below (below_trans hB1 hx)) z0g
  rw [tol_null] at h
  exact h
 obtain ⟨_,_,_,_,_,_,_,_,_,_⟩:=X3.out.all
 clear hU hT hin HPL CL hx3
 go_upto_region 4 with (go_at_call 10;with_reducible refine (CN.out _ (Below.refl _ _)).mono ?_;rintro e w4 ⟨neg,V,bits,text,aL,nL,cL,aK,cK,rfl,hb4⟩)
 have A4:=Lib.hid (vbx_new w4 35 8 neg V bits text aL nL cL aK 0 cK)
 have hA4:=below_alloc (Below.refl w4.heap.size w4) (.cells #[.int .i64 8,.bool neg,.int .u64 (lm V 0:Nat),.int .u64 (lm V 1:Nat),.int .u64 (lm V 2:Nat),.int .u64 (lm V 3:Nat),.int .u64 (bits:Nat),.string text,.slice aL nL cL,.slice aK 0 cK] 35)
 generalize (w4.alloc (.cells #[.int .i64 8,.bool neg,.int .u64 (lm V 0:Nat),.int .u64 (lm V 1:Nat),.int .u64 (lm V 2:Nat),.int .u64 (lm V 3:Nat),.int .u64 (bits:Nat),.string text,.slice aL nL cL,.slice aK 0 cK] 35))=W5 at *
 have hx5:=below_trans hb4 hA4
 have X5:=Lib.hid (X3.out.below hx5)
 obtain ⟨_,_,_,_,_,_,_,_,_,_⟩:=X5.out.all
 obtain ⟨_,_,_,_,_,_,_,_,_,_⟩:=A4.out.all
 repeat any_goals (first|(go_at_call 9;with_reducible refine (CV.out _ hx5).mono ?_;rintro e w6 ⟨rfl,hb6⟩;have A6:=Lib.hid (A4.out.below hb6);obtain ⟨_,_,_,_,_,_,_,_,_,_⟩:=A6.out.all)|(go_at_call 9;with_reducible refine (C0.out _ (below_trans hx5 hb6)).mono ?_;rintro e w7 ⟨rfl,hb7⟩)|go_skip|go_guarded|go_step|go_upon|(dsimp only []))
 exact bodyPost_ret (v:=.bool true) (by simp [results,Tryd.results8,go_sem]) rfl ⟨rfl,below_trans hB1 (below_trans hx5 (below_trans hb6 hb7))⟩
end Go.Proofs.YtfondldmmcmloaaDoor
namespace Go.Proofs.YtfondldmmcmloaaDoor
open Go.ChangeShapes Go.WideShapes Go.ChangeAt Go.RowKit Go.ChangeMaps
theorem own:ownKnob Tryd.prog.godebug=none:=by kernel_rfl
end Go.Proofs.YtfondldmmcmloaaDoor
