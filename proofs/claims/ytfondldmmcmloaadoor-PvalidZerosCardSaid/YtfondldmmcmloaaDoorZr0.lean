/- The law PvalidZeros: any field's way to stand, any type, zero or not. -/
import Derived.Test.YtfondldmmcmloaaDoorPdCA
import Derived.Deep.CutBlock
import Derived.Deep.DeepCutAuto
import Derived.Deep.RegionHeld3
namespace Go.Proofs.YtfondldmmcmloaaDoor
open Go Go.RowKit
/-- the one message that a text gives, by its field's type and way to stand -/
def zrL (h:Nat) (t:ByteArray):List MB:=[⟨⟨#[77]⟩,[⟨⟨#[120]⟩,t,1,h == 1,h == 2,h == 3⟩],[],[]⟩]
def arrX (g:Nat) (F:VT):VT:=.mk 7 false 0 0 ⟨#[]⟩ (some ⟨g,0,none⟩) 1 1 (fun _=>F) none 0 0 (fun _=>⟨#[]⟩)
def mapX (g k:Nat) (F:VT):VT:=.mk 8 false 0 0 ⟨#[]⟩ (some ⟨g,0,none⟩) 1 1 (fun _=>F) (some ⟨k,0,none⟩) 1 1 (fun _=>⟨#[]⟩)
/-- the value of a field that stands so -/
def XF (h:Nat) (F X:VT):Prop:=(h=0∨h=1)∧X=F∨(h=2∧∃ g,X=arrX g F)∨(h=3∧∃ g k,X=mapX g k F)
/-- what is known of a value: it may be, and its norm -/
structure ZrV (h:Nat) (t:ByteArray) (out:Bool) (X:VT):Prop where
  v:∀ (A:Nat→Ad6) (a b:Nat),validB (pmsOf (zrL h t) A) 1 (recX a b X)=true
  o:out=true→∀ A:Nat→Ad6,cntN (keptI (pmsOf (zrL h t) A 0) (fun _=>⟨#[120]⟩) (fun _=>X)) 1=0
  s:out=false→∀ (A:Nat→Ad6) (a b:Nat),Sim ((nrm2 (pmsOf (zrL h t) A) 1 (recX a b X)).msg (pmsOf (zrL h t) A 0)) (recX a b X)
  n:∀ a b,(recX a b X).nodes < 4611686018427387904
structure ZrC (w:World) (F:VT) (S0 S1 S2 S3:ByteArray) (PV:Nat→World→Option Addr→Nat→Prop) (out:Nat→Bool):Prop where
  T:∀ wr:World,Below w.heap.size w wr→Calls Tryd.prog 8 #[] wr fun e w'=>e=.returned (.bool true)∧Below wr.heap.size wr w'
  pv:∀ (h:Nat) (wr wx:World) (a:Option Addr) (c:Nat),PV h wr a c→Below wr.heap.size wr wx→PV h wx a c
  N:∀ (h:Nat) (X:VT) (wx:World) (a:Option Addr) (c g k:Nat),XF h F X→Below w.heap.size w wx→PV h wx a c→(recX g k X).In wx→Calls Tryd.prog 10 #[.slice a 1 c,.agg #[.int .i64 8,.bool false,.int .u64 0,.int .u64 0,.int .u64 0,.int .u64 0,.int .u64 0,.string ⟨#[]⟩,.slice (some ⟨g,0,none⟩) 1 1,.slice (some ⟨k,0,none⟩) 1 1]] wx fun e w'=>∃ (kind:Int) (neg:Bool) (V bits:Nat) (text:ByteArray) (aL:Option Addr) (nL cL:Nat) (aK:Option Addr) (nK cK:Nat),e=.returned (.tuple #[.agg #[.int .i64 kind,.bool neg,.int .u64 (lm V 0:Nat),.int .u64 (lm V 1:Nat),.int .u64 (lm V 2:Nat),.int .u64 (lm V 3:Nat),.int .u64 (bits:Nat),.string text,.slice aL nL cL,.slice aK nK cK],.bool true])∧(out h=true→nK=0)∧(out h=false→Hid (∀ wy:World,Below w'.heap.size w' wy→Calls Tryd.prog 11 #[.agg #[.int .i64 kind,.bool neg,.int .u64 (lm V 0:Nat),.int .u64 (lm V 1:Nat),.int .u64 (lm V 2:Nat),.int .u64 (lm V 3:Nat),.int .u64 (bits:Nat),.string text,.slice aL nL cL,.slice aK nK cK],.agg #[.int .i64 8,.bool false,.int .u64 0,.int .u64 0,.int .u64 0,.int .u64 0,.int .u64 0,.string ⟨#[]⟩,.slice (some ⟨g,0,none⟩) 1 1,.slice (some ⟨k,0,none⟩) 1 1]] wy fun e w2=>e=.returned (.bool true)∧Below wy.heap.size wy w2))∧Below wx.heap.size wx w'
  L0:∀ wr:World,Calls Tryd.prog 5 #[.string S0] wr fun e w'=>∃ (a:Option Addr) (c:Nat),e=.returned (.tuple #[.slice a 1 c,.int .i64 0])∧PV 0 w' a c∧Below wr.heap.size wr w'
  L1:∀ wr:World,Calls Tryd.prog 5 #[.string S1] wr fun e w'=>∃ (a:Option Addr) (c:Nat),e=.returned (.tuple #[.slice a 1 c,.int .i64 0])∧PV 1 w' a c∧Below wr.heap.size wr w'
  L2:∀ wr:World,Calls Tryd.prog 5 #[.string S2] wr fun e w'=>∃ (a:Option Addr) (c:Nat),e=.returned (.tuple #[.slice a 1 c,.int .i64 0])∧PV 2 w' a c∧Below wr.heap.size wr w'
  L3:∀ wr:World,Calls Tryd.prog 5 #[.string S3] wr fun e w'=>∃ (a:Option Addr) (c:Nat),e=.returned (.tuple #[.slice a 1 c,.int .i64 0])∧PV 3 w' a c∧Below wr.heap.size wr w'
theorem flat_of (w:World) (kind:Int) (V bits:Nat) (text:ByteArray) (h0 : -9223372036854775808≤kind) (h1:kind < 9223372036854775808) (hv:V < 2 ^ 256) (hb:bits < 18446744073709551616) (ht:text.size≤maxLen):(flatV kind false V bits text).In w:=
  flat_in _ _ _ _ _ _ ⟨h0,h1,hv,hb,ht,Nat.le_refl _,Nat.zero_le _,Nat.le_refl _,Nat.zero_le _⟩
theorem arr_in {w:World} {g:Nat} {F:VT} (hF:F.In w) (hg:g < w.heap.size) (hc:∀ j,j < 10→w.cell? ⟨g,j,none⟩=F.cells[j]?):(arrX g F).In w:=by
  refine ⟨⟨by decide,by decide,by decide,by decide,Nat.zero_le _,Nat.le_refl _,by decide,Nat.le_refl _,Nat.zero_le _⟩,.inr ⟨g,0,rfl,hg,fun i hi j hj=>?_⟩,fun _ _=>hF,.inl rfl⟩
  obtain rfl:i=0:=by omega
  rw [Nat.zero_mul,Nat.zero_add]
  exact hc j hj
theorem map_in {w:World} {g k:Nat} {F:VT} (hF:F.In w) (hg:g < w.heap.size) (hk:k < w.heap.size) (hc:∀ j,j < 10→w.cell? ⟨g,j,none⟩=F.cells[j]?) (hs:w.cell? ⟨k,0,none⟩=some (.string ⟨#[]⟩)):(mapX g k F).In w:=by
  refine ⟨⟨by decide,by decide,by decide,by decide,Nat.zero_le _,Nat.le_refl _,by decide,Nat.le_refl _,by decide⟩,.inr ⟨g,0,rfl,hg,fun i hi j hj=>?_⟩,fun _ _=>hF,.inr ⟨k,0,rfl,hk,fun i hi=>?_⟩⟩
  · obtain rfl:i=0:=by omega
    rw [Nat.zero_mul,Nat.zero_add]
    exact hc j hj
  · obtain rfl:i=0:=by omega
    exact ⟨hs,by decide⟩
theorem ten_of {w:World} {g:Nat} {X:VT} {v0 v1 v2 v3 v4 v5 v6 v7 v8 v9:Value} (R:RBx w g v0 v1 v2 v3 v4 v5 v6 v7 v8 v9) (e:X.cells=[v0,v1,v2,v3,v4,v5,v6,v7,v8,v9]):∀ j,j < 10→w.cell? ⟨g,j,none⟩=X.cells[j]? := by
  intro j hj
  obtain ⟨c0,c1,c2,c3,c4,c5,c6,c7,c8,c9⟩:=R.all
  rw [e]
  match j with
  | 0=>exact c0
  | 1=>exact c1
  | 2=>exact c2
  | 3=>exact c3
  | 4=>exact c4
  | 5=>exact c5
  | 6=>exact c6
  | 7=>exact c7
  | 8=>exact c8
  | 9=>exact c9
  | j+10=>omega
/-- ten cells of a row, at their places -/
structure TBx (w:World) (b i0 i1 i2 i3 i4 i5 i6 i7 i8 i9:Nat) (v0 v1 v2 v3 v4 v5 v6 v7 v8 v9:Value):Prop where
  all:w.cell? ⟨b,i0,none⟩=some v0∧w.cell? ⟨b,i1,none⟩=some v1∧w.cell? ⟨b,i2,none⟩=some v2∧w.cell? ⟨b,i3,none⟩=some v3∧w.cell? ⟨b,i4,none⟩=some v4∧w.cell? ⟨b,i5,none⟩=some v5∧w.cell? ⟨b,i6,none⟩=some v6∧w.cell? ⟨b,i7,none⟩=some v7∧w.cell? ⟨b,i8,none⟩=some v8∧w.cell? ⟨b,i9,none⟩=some v9
theorem TBx.below {w w1:World} {b i0 i1 i2 i3 i4 i5 i6 i7 i8 i9:Nat} {v0 v1 v2 v3 v4 v5 v6 v7 v8 v9:Value} (h:TBx w b i0 i1 i2 i3 i4 i5 i6 i7 i8 i9 v0 v1 v2 v3 v4 v5 v6 v7 v8 v9) (hb:Below w.heap.size w w1):TBx w1 b i0 i1 i2 i3 i4 i5 i6 i7 i8 i9 v0 v1 v2 v3 v4 v5 v6 v7 v8 v9:=by
  obtain ⟨h0,h1,h2,h3,h4,h5,h6,h7,h8,h9⟩:=h.all
  exact ⟨keep_cell hb h0,keep_cell hb h1,keep_cell hb h2,keep_cell hb h3,keep_cell hb h4,keep_cell hb h5,keep_cell hb h6,keep_cell hb h7,keep_cell hb h8,keep_cell hb h9⟩
end Go.Proofs.YtfondldmmcmloaaDoor
