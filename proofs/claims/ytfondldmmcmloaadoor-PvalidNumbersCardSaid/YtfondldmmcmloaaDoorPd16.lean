/- PH, PI, PV. -/
import Derived.Test.YtfondldmmcmloaaDoorPd15
set_option maxRecDepth 1000000
set_option maxHeartbeats 8000000
namespace Go.Proofs.YtfondldmmcmloaaDoor
open Go.RowKit
structure SxF (w:World) (B:Nat) (a0 a1 a2 a3 a4 a5:Value):Prop where
 c:w.cell? ⟨B,0,none⟩=some a0∧w.cell? ⟨B,1,none⟩=some a1∧w.cell? ⟨B,2,none⟩=some a2∧w.cell? ⟨B,3,none⟩=some a3∧w.cell? ⟨B,4,none⟩=some a4∧w.cell? ⟨B,5,none⟩=some a5
 f:∀ j,w.frozen? ⟨B,j,none⟩=false
theorem SxF.below {w w1:World} {B:Nat} {a0 a1 a2 a3 a4 a5:Value} (h:SxF w B a0 a1 a2 a3 a4 a5) (hb:Below w.heap.size w w1):SxF w1 B a0 a1 a2 a3 a4 a5:=by
 have hl:B < w.heap.size:=World.block_lt_of_cell? w ⟨B,0,none⟩ h.c.1
 obtain ⟨⟨h0,h1,h2,h3,h4,h5⟩,hf⟩:=h
 exact ⟨⟨keep_cell hb h0,keep_cell hb h1,keep_cell hb h2,keep_cell hb h3,keep_cell hb h4,keep_cell hb h5⟩,fun j=>by rw [hb.frozen (p:=⟨B,j,none⟩) hl];exact hf j⟩
theorem sxf_new (w:World) (t:TypeId) (a0 a1 a2 a3 a4 a5:Value):SxF (w.alloc (.cells #[a0,a1,a2,a3,a4,a5] t)) w.heap.size a0 a1 a2 a3 a4 a5:=⟨by simp [go_sem],fun j=>by simp [go_sem]⟩
def fldV (m:PM) (s:ByteArray):PF:=if placeF m s < 0 then ⟨⟨#[]⟩,⟨#[]⟩,0,false,false,false⟩ else m.F (placeF m s).toNat
theorem placeF_lt {m:PM} {s:ByteArray}:placeF m s < m.nF:=by
 unfold placeF
 generalize (fun i=>eqS (m.F i).name s)=p
 induction m.nF with
 | zero=>show (-1:Int) < 0;omega
 | succ n ih=>
  simp only [fstN]
  split
  ·split <;> omega
  ·omega
/-- **Field** of the program -/
theorem PField_any (m:PM) (s:ByteArray) (w:World) (hm:m.In w) :
  Calls Tryd.prog 39 #[m.agg,.string s] w fun e w'=>e=.returned (.tuple #[(fldV m s).agg,.bool (decide (0≤placeF m s))])∧Below w.heap.size w w':=by
 have HM:=Lib.hid hm
 have l5:=hm.f.l
 have l6:=hm.f.lc
 simp only [maxLen] at l6
 have hmf:∀ (fn:Fn) (first cap:Array Value) (w:World),(Instr.makeFunc fn first cap).run Tryd.prog w=.ok (.func fn first cap) w:=fun _ _ _ _=>rfl
 obtain ⟨z,hz⟩:∃ z,z=placeF m s:=⟨_,rfl⟩
 obtain ⟨r,hr⟩:∃ r,r=fldV m s:=⟨_,rfl⟩
 rw [← hz,← hr]
 have C1:=Lib.hid (fun (B:Nat) wx (hx:Below w.heap.size w wx) (hc:wx.cell? ⟨B,0,none⟩=some (.string s))=>by
  have:=IndexF_any 65 (enters_of Tryd.func65 z0a rfl) B (fun i=>eqS (m.F i).name s) m.aF m.nF m.cF m.F wx (HM.out.f.below hx) (fun i _ w' hb=>FieldC_any (m.F i) s B w' (keep_cell hb hc))
  rwa [show fstN (fun i=>eqS (m.F i).name s) m.nF=z from hz.symm] at this)
 have HZ:=Lib.hid hz
 have HR:=Lib.hid hr
 have hzl:z < m.nF:=by rw [hz];exact placeF_lt
 unfold PF.agg
 unfold PM.agg
 clear hm hz hr
 go_enter Tryd.func39,Tryd.ntmps39
 go_upto_region 1 with fail
 have M0:=Lib.hid ((mbx_new w m 55).below (show Below (w.alloc (.cells #[.string m.name,.slice m.aF m.nF m.cF,.slice m.aN m.nN m.cN,.slice m.aS m.nS m.cS] 55)).heap.size (w.alloc (.cells #[.string m.name,.slice m.aF m.nF m.cF,.slice m.aN m.nN m.cN,.slice m.aS m.nS m.cS] 55)) (((w.alloc (.cells #[.string m.name,.slice m.aF m.nF m.cF,.slice m.aN m.nN m.cN,.slice m.aS m.nS m.cS] 55)).alloc (.cells #[.string s] 9)).alloc (.cells #[.string ⟨#[]⟩,.string ⟨#[]⟩,.int .i64 0,.bool false,.bool false,.bool false] 70)) from below_alloc (below_alloc (Below.refl _ _) _) _))
 have N0:(((w.alloc (.cells #[.string m.name,.slice m.aF m.nF m.cF,.slice m.aN m.nN m.cN,.slice m.aS m.nS m.cS] 55)).alloc (.cells #[.string s] 9)).alloc (.cells #[.string ⟨#[]⟩,.string ⟨#[]⟩,.int .i64 0,.bool false,.bool false,.bool false] 70)).cell? ⟨w.heap.size+1,0,none⟩=some (.string s):=by simp [go_sem]
 have S0:SxF (((w.alloc (.cells #[.string m.name,.slice m.aF m.nF m.cF,.slice m.aN m.nN m.cN,.slice m.aS m.nS m.cS] 55)).alloc (.cells #[.string s] 9)).alloc (.cells #[.string ⟨#[]⟩,.string ⟨#[]⟩,.int .i64 0,.bool false,.bool false,.bool false] 70)) (w.heap.size+1+1) (.string ⟨#[]⟩) (.string ⟨#[]⟩) (.int .i64 0) (.bool false) (.bool false) (.bool false):=⟨by simp [go_sem],fun j=>by simp [go_sem]⟩
 have S0:=Lib.hid S0
 have hW0:Below w.heap.size w (((w.alloc (.cells #[.string m.name,.slice m.aF m.nF m.cF,.slice m.aN m.nN m.cN,.slice m.aS m.nS m.cS] 55)).alloc (.cells #[.string s] 9)).alloc (.cells #[.string ⟨#[]⟩,.string ⟨#[]⟩,.int .i64 0,.bool false,.bool false,.bool false] 70)):=zb2
 generalize (((w.alloc (.cells #[.string m.name,.slice m.aF m.nF m.cF,.slice m.aN m.nN m.cN,.slice m.aS m.nS m.cS] 55)).alloc (.cells #[.string s] 9)).alloc (.cells #[.string ⟨#[]⟩,.string ⟨#[]⟩,.int .i64 0,.bool false,.bool false,.bool false] 70))=w0 at *
 obtain ⟨B0,hB0⟩:∃ B,B=w.heap.size:=⟨_,rfl⟩
 have HB:=Lib.hid (show w.heap.size≤B0+1+1 by omega)
 rw [← hB0] at M0 N0 S0 ⊢
 clear hB0
 obtain ⟨B1,hB1⟩:∃ B,B=B0+1:=⟨_,rfl⟩
 rw [← hB1] at N0 S0 HB ⊢
 clear hB1
 obtain ⟨B2,hB2⟩:∃ B,B=B1+1:=⟨_,rfl⟩
 rw [← hB2] at S0 HB ⊢
 clear hB2
 have C1:=Lib.hid (C1.out B1 w0 hW0 N0)
 clear N0
 obtain ⟨_,_,_,_⟩:=M0.out.all
 go_upto_region 2 with (go_at_call 64;with_reducible refine C1.out.mono ?_;rintro e w1 ⟨rfl,hb1⟩)
 have M1:=Lib.hid (M0.out.below hb1)
 have S1:=Lib.hid (S0.out.below hb1)
 have hW1:=below_trans hW0 hb1
 obtain ⟨_,_,_,_⟩:=M1.out.all
 obtain ⟨_,_,_,_,_,_⟩:=S1.out.c
 have hf:=S1.out.f
 have hB:=HB.out
 clear hb1
 by_cases c:z < 0
 ·have e:r=⟨⟨#[]⟩,⟨#[]⟩,0,false,false,false⟩:=by rw [HR.out];unfold fldV;rw [← HZ.out,if_pos c]
  have e2:decide (0≤z)=false:=decide_eq_false z0b
  have E2:=Lib.hid e2
  clear e2
  subst e
  repeat any_goals (first|go_skip|go_guarded|go_step|go_upon|(simp only [];done))
  exact bodyPost_ret (v:=.tuple #[.agg #[.string ⟨#[]⟩,.string ⟨#[]⟩,.int .i64 0,.bool false,.bool false,.bool false],.bool false]) (by simp [results,Tryd.results39,go_sem, *]) rfl ⟨by rw [E2.out],zb2⟩
 ·obtain ⟨k,hk⟩:∃ k:Nat,z=k:=⟨z.toNat,by omega⟩
  subst hk
  have e:r=m.F k:=by rw [HR.out];unfold fldV;rw [← HZ.out,if_neg c];rfl
  have e2:decide ((0:Int)≤(k:Int))=true:=decide_eq_true z0b
  have E2:=Lib.hid e2
  obtain ⟨b,off,e0,hbl,hF,-⟩:=f_lit HM.out.f (show k < m.nF by omega) hW1
  rw [← e] at hF
  obtain ⟨nm,ty,nu,op,re,ma⟩:=r
  obtain ⟨_,_,_,_,_,_⟩:=hF.all
  have i1:(k:Int) < (m.nF:Int):=hzl
  have i2:(0:Int)≤(k:Int):=by omega
  have i5:(k:Int).toNat=k:=rfl
  clear e e2 hF c
  repeat any_goals (first|go_skip|go_guarded|go_step|go_upon|(simp only [];done))
  exact bodyPost_ret (v:=.tuple #[.agg #[.string nm,.string ty,.int .i64 nu,.bool op,.bool re,.bool ma],.bool true]) (by simp [results,Tryd.results39,go_sem, *]) rfl ⟨by rw [E2.out],zb2⟩
structure Ok3 where
 msg:PM→Bool
 one:ByteArray→Bool
 all:ByteArray→Bool
def VT.kd:VT→Int
 | .nil=>0
 | .mk kind _ _ _ _ _ _ _ _ _ _ _ _=>kind
def memO (f:PF) (kind:Int) (o:Ok3):Bool:=
 if f.rep=true then decide (kind=7) && o.all f.type else if f.map=true then decide (kind=8) && o.all f.type else o.one f.type
def okT (M:Nat→PM) (n:Nat):VT→Ok3
 | .nil=>⟨fun _=>false,fun _=>false,fun _=>false⟩
 | .mk kind neg V _ _ _ nL _ kids _ nK _ keys=>
  let msg:PM→Bool:=fun m=>decide (kind=8) && !anyN (fun i=>decide (placeF m (keys i) < 0) || !memO (fldV m (keys i)) (kids i).kd (okT M n (kids i))) nK
  ⟨msg,fun s=>if scalarB s=true then scT s.toList kind neg V else !decide (placeM M n s < 0) && msg (M (placeM M n s).toNat),fun s => !anyN (fun i => !(okT M n (kids i)).one s) nL⟩
theorem okT_msg (M:Nat→PM) (n:Nat) (kind:Int) (neg:Bool) (V bits:Nat) (text:ByteArray) (aL:Option Addr) (nL cL:Nat) (kids:Nat→VT) (aK:Option Addr) (nK cK:Nat) (keys:Nat→ByteArray) (m:PM) :
  (okT M n (.mk kind neg V bits text aL nL cL kids aK nK cK keys)).msg m=(decide (kind=8) && !anyN (fun i=>decide (placeF m (keys i) < 0) || !memO (fldV m (keys i)) (kids i).kd (okT M n (kids i))) nK):=rfl
theorem okT_one (M:Nat→PM) (n:Nat) (kind:Int) (neg:Bool) (V bits:Nat) (text:ByteArray) (aL:Option Addr) (nL cL:Nat) (kids:Nat→VT) (aK:Option Addr) (nK cK:Nat) (keys:Nat→ByteArray) (s:ByteArray) :
  (okT M n (.mk kind neg V bits text aL nL cL kids aK nK cK keys)).one s=if scalarB s=true then scT s.toList kind neg V else !decide (placeM M n s < 0) && (okT M n (.mk kind neg V bits text aL nL cL kids aK nK cK keys)).msg (M (placeM M n s).toNat):=rfl
theorem okT_all (M:Nat→PM) (n:Nat) (kind:Int) (neg:Bool) (V bits:Nat) (text:ByteArray) (aL:Option Addr) (nL cL:Nat) (kids:Nat→VT) (aK:Option Addr) (nK cK:Nat) (keys:Nat→ByteArray) (s:ByteArray) :
  (okT M n (.mk kind neg V bits text aL nL cL kids aK nK cK keys)).all s = !anyN (fun i => !(okT M n (kids i)).one s) nL:=rfl
def Types (M:Nat→PM) (n:Nat):Prop:=∀ k,k < n→∀ i,i < (M k).nF→scalarB ((M k).F i).type=true∨0≤placeM M n ((M k).F i).type
theorem check_types {M:Nat→PM} {n:Nat} (h:checkB M n=true):Types M n:=by
 unfold checkB at h
 rw [Bool.and_eq_true,Bool.and_eq_true,Bool.not_eq_true'] at h
 intro k hk i hi
 have h1:=anyN_no h.2.2 hk
 unfold msgBad at h1
 simp only [Bool.or_eq_false_iff,Bool.not_eq_false'] at h1
 have h2:=h1.2.2.2
 unfold fieldsB at h2
 rw [Bool.not_eq_true'] at h2
 have h3:=anyN_no h2 hi
 unfold fldBad fldA at h3
 simp only [Bool.or_eq_false_iff] at h3
 have h4:=h3.1.2.2.2.2
 by_cases c:scalarB ((M k).F i).type=true
 ·exact .inl c
 ·right
  rw [Bool.not_eq_true] at c
  rw [c,Bool.not_false,Bool.true_and,decide_eq_false_iff_not] at h4
  omega
theorem placeM_lt {M:Nat→PM} {n:Nat} {s:ByteArray}:placeM M n s < n:=by
 unfold placeM
 generalize (fun i=>eqS (M i).name s)=p
 induction n with
 | zero=>show (-1:Int) < 0;omega
 | succ n ih=>
  simp only [fstN]
  split
  ·split <;> omega
  ·omega
def Asks (M:Nat→PM) (n:Nat) (s:ByteArray):Prop:=scalarB s=true∨0≤placeM M n s
theorem fld_asks {M:Nat→PM} {n k:Nat} {s:ByteArray} (h:Types M n) (hk:k < n) (hz:0≤placeF (M k) s):Asks M n (fldV (M k) s).type:=by
 unfold fldV
 rw [if_neg z0b]
 exact h k hk _ (by have:=placeF_lt (m:=M k) (s:=s);omega)
end Go.Proofs.YtfondldmmcmloaaDoor
