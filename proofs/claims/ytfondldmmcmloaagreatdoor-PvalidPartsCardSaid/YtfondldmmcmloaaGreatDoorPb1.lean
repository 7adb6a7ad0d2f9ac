/- UtfM, Shelf, Math, MathShl, NatA. -/
import Derived.Lib.ValidLaws
import Derived.Shelf.Strconv.Itoa0
import Derived.Shelf.Slices.Turned
import Derived.Shelf.Spec.TrailingZeros
import Derived.Shelf.Unicode.ValidAny
import Derived.Shelf.Spec.BitsCarry
import Derived.Test.YtfondldmmcmloaaGreatDoorProg
import Derived.Lib.BitFns
import Derived.Lib.ItoaNum
import Derived.Lib.TrailingZeros
import Derived.WalkKit
import Derived.WalkSpells
import Derived.WalkLawsBesides
import Derived.StillTailTactics
import Derived.Deep.QuietTactic
import Derived.BigQuiet
import Derived.Handy
import Derived.Outline
import Derived.Lib.Hide
import Derived.Test.YtfondldmmcmloaaGreatDoorRows
import Derived.Test.YtfondldmmcmloaaGreatDoorPb0
set_option maxRecDepth 1000000
set_option maxHeartbeats 8000000
namespace Go.Proofs.YtfondldmmcmloaaGreatDoor
open Go.Lib
def nxD (d:Nat × Nat):Int × Nat:=if d.1=65533∧d.2=1 then (-1,1) else ((d.1:Int),d.2)
def nxS (s:ByteArray) (a:Nat):Int × Nat:=nxD (Utf8.decode s a)
def validS (s:ByteArray):Bool:=validD s.data.toList
theorem nxS_N (s:ByteArray) (a:Nat):nxS s a=nxD (decodeN (s.size - a) (s.get! a).toNat (s.get! (a+1)).toNat (s.get! (a+2)).toNat (s.get! (a+3)).toNat):=by
 unfold nxS
 rw [decode_at]
theorem nxS_pos (s:ByteArray) (a:Nat):1≤(nxS s a).2:=by
 have h:=decodeL_width (s.data.toList.drop a)
 rw [decodeL_drop] at h
 unfold nxS nxD
 split
 ·exact Nat.le_refl _
 ·exact h
theorem size_list (s:ByteArray):s.data.toList.length=s.size:=Array.length_toList
theorem valid_next (s:ByteArray) (a:Nat) (h:a < s.size):validD (s.data.toList.drop a)=if (nxS s a).1 < 0 then false else validD (s.data.toList.drop (a+(nxS s a).2)):=by
 have hne:s.data.toList.drop a≠[]:=by
  intro h0
  have:=congrArg List.length h0
  rw [List.length_drop,size_list] at this
  simp at this
  omega
 rw [validD_step _ hne,decodeL_drop,List.drop_drop]
 unfold nxS nxD
 by_cases c:(Utf8.decode s a).1=65533∧(Utf8.decode s a).2=1
 ·rw [if_pos c,if_pos c,if_pos z0e]
 ·rw [if_neg c,if_neg c,if_neg z0f]
theorem valid_end (s:ByteArray) (a:Nat) (h:s.size≤a):validD (s.data.toList.drop a)=true:=by
 rw [List.drop_eq_nil_of_le (by rw [size_list];exact h)]
 rfl
theorem nxS_le (s:ByteArray) (a:Nat) (h:a < s.size):a+(nxS s a).2≤s.size:=by
 have hne:s.data.toList.drop a≠[]:=by
  intro h0
  have:=congrArg List.length h0
  rw [List.length_drop,size_list] at this
  simp at this
  omega
 have hl:=decodeL_le _ hne
 rw [decodeL_drop,List.length_drop,size_list] at hl
 unfold nxS nxD
 split
 ·simp;omega
 ·simp;omega
def pointB (c:Int):Bool:=decide (0≤c∧c≤1114111∧(c < 55296∨57343 < c))
theorem nxD_if {c:Prop} [Decidable c] {A k:Nat} (h:k≠1):nxD (if c then (A,k) else (65533,1))=if c then ((A:Int),k) else (-1,1):=by
 unfold nxD
 by_cases d:c
 ·rw [if_pos d,if_pos d,if_neg (fun x=>h x.2)]
 ·rw [if_neg d,if_neg d,if_pos ⟨rfl,rfl⟩]
theorem nx_one {n b0 b1 b2 b3:Nat} (h:b0 < 128):nxD (decodeN n b0 b1 b2 b3)=((b0:Int),1):=by
 have e:decodeN n b0 b1 b2 b3=(b0,1):=by unfold decodeN;rw [if_pos h]
 rw [e]
 unfold nxD
 rw [if_neg (fun x=>by have:=x.1;simp only at this;omega)]
theorem nx_bad {n b0 b1 b2 b3:Nat} (h:128≤b0) (h2:b0 < 192∨248≤b0) (hb:b0 < 256):nxD (decodeN n b0 b1 b2 b3)=(-1,1):=by
 have e:decodeN n b0 b1 b2 b3=(65533,1):=by
  unfold decodeN
  rw [if_neg (show ¬ b0 < 128 by omega),if_neg (show ¬ (b0 / 32=6∧(1 < n∧b1 / 64=2)) by omega),if_neg (show ¬ (b0 / 16=14∧(1 < n∧b1 / 64=2)∧(2 < n∧b2 / 64=2)) by omega),if_neg (show ¬ (b0 / 8=30∧(1 < n∧b1 / 64=2)∧(2 < n∧b2 / 64=2)∧(3 < n∧b3 / 64=2)) by omega)]
 rw [e]
 rfl
theorem nx_two {n b0 b1 b2 b3:Nat} (h:192≤b0) (h2:b0 < 224):nxD (decodeN n b0 b1 b2 b3)=if 1 < n∧b1 / 64=2∧128≤b0 % 32 * 64+b1 % 64 then (((b0 % 32 * 64+b1 % 64:Nat):Int),2) else (-1,1):=by
 have e:decodeN n b0 b1 b2 b3=if 1 < n∧b1 / 64=2∧128≤b0 % 32 * 64+b1 % 64 then (b0 % 32 * 64+b1 % 64,2) else (65533,1):=by
  unfold decodeN
  rw [if_neg (show ¬ b0 < 128 by omega),if_neg (show ¬ (b0 / 16=14∧(1 < n∧b1 / 64=2)∧(2 < n∧b2 / 64=2)) by omega),if_neg (show ¬ (b0 / 8=30∧(1 < n∧b1 / 64=2)∧(2 < n∧b2 / 64=2)∧(3 < n∧b3 / 64=2)) by omega)]
  by_cases c:1 < n∧b1 / 64=2
  ·rw [if_pos (show b0 / 32=6∧(1 < n∧b1 / 64=2) from ⟨by omega,c⟩)]
   by_cases d:128≤b0 % 32 * 64+b1 % 64
   ·rw [if_pos (show b0 % 32 * 64+b1 % 64≥128 from d),if_pos ⟨c.1,c.2,d⟩]
   ·rw [if_neg (show ¬ b0 % 32 * 64+b1 % 64≥128 from d),if_neg (fun x=>d x.2.2)]
  ·rw [if_neg (show ¬ (b0 / 32=6∧(1 < n∧b1 / 64=2)) from fun x=>c x.2),if_neg (fun x=>c ⟨x.1,x.2.1⟩)]
 rw [e,nxD_if z0e]
theorem nx_three {n b0 b1 b2 b3:Nat} (h:224≤b0) (h2:b0 < 240):nxD (decodeN n b0 b1 b2 b3)=if 2 < n∧b1 / 64=2∧b2 / 64=2∧2048≤(b0 % 16 * 64+b1 % 64) * 64+b2 % 64∧((b0 % 16 * 64+b1 % 64) * 64+b2 % 64 < 55296∨57343 < (b0 % 16 * 64+b1 % 64) * 64+b2 % 64) then ((((b0 % 16 * 64+b1 % 64) * 64+b2 % 64:Nat):Int),3) else (-1,1):=by
 have e:decodeN n b0 b1 b2 b3=if 2 < n∧b1 / 64=2∧b2 / 64=2∧2048≤(b0 % 16 * 64+b1 % 64) * 64+b2 % 64∧((b0 % 16 * 64+b1 % 64) * 64+b2 % 64 < 55296∨57343 < (b0 % 16 * 64+b1 % 64) * 64+b2 % 64) then ((b0 % 16 * 64+b1 % 64) * 64+b2 % 64,3) else (65533,1):=by
  unfold decodeN
  have ec:b0 % 16 * 4096+b1 % 64 * 64+b2 % 64=(b0 % 16 * 64+b1 % 64) * 64+b2 % 64:=by omega
  rw [if_neg (show ¬ b0 < 128 by omega),if_neg (show ¬ (b0 / 32=6∧(1 < n∧b1 / 64=2)) by omega),if_neg (show ¬ (b0 / 8=30∧(1 < n∧b1 / 64=2)∧(2 < n∧b2 / 64=2)∧(3 < n∧b3 / 64=2)) by omega),ec]
  generalize (b0 % 16 * 64+b1 % 64) * 64+b2 % 64=c at *
  have hc:c < 65536:=by omega
  by_cases c1:(1 < n∧b1 / 64=2)∧(2 < n∧b2 / 64=2)
  ·rw [if_pos (show b0 / 16=14∧(1 < n∧b1 / 64=2)∧(2 < n∧b2 / 64=2) from ⟨by omega,c1⟩)]
   by_cases d:2048≤c∧(c < 55296∨57343 < c)
   ·rw [if_pos (show c≥2048∧(c < 55296∨(57344≤c∧c≤1114111)) by omega),if_pos ⟨c1.2.1,c1.1.2,c1.2.2,d.1,d.2⟩]
   ·rw [if_neg (show ¬ (c≥2048∧(c < 55296∨(57344≤c∧c≤1114111))) by omega),if_neg (fun x=>d x.2.2.2)]
  ·rw [if_neg (show ¬ (b0 / 16=14∧(1 < n∧b1 / 64=2)∧(2 < n∧b2 / 64=2)) from fun x=>c1 x.2),if_neg (fun x=>c1 ⟨⟨by omega,x.2.1⟩,x.1,x.2.2.1⟩)]
 rw [e,nxD_if z0e]
theorem nx_four {n b0 b1 b2 b3:Nat} (h:240≤b0) (h2:b0 < 248):nxD (decodeN n b0 b1 b2 b3)=if 3 < n∧b1 / 64=2∧b2 / 64=2∧b3 / 64=2∧65536≤((b0 % 8 * 64+b1 % 64) * 64+b2 % 64) * 64+b3 % 64∧((b0 % 8 * 64+b1 % 64) * 64+b2 % 64) * 64+b3 % 64≤1114111 then (((((b0 % 8 * 64+b1 % 64) * 64+b2 % 64) * 64+b3 % 64:Nat):Int),4) else (-1,1):=by
 have e:decodeN n b0 b1 b2 b3=if 3 < n∧b1 / 64=2∧b2 / 64=2∧b3 / 64=2∧65536≤((b0 % 8 * 64+b1 % 64) * 64+b2 % 64) * 64+b3 % 64∧((b0 % 8 * 64+b1 % 64) * 64+b2 % 64) * 64+b3 % 64≤1114111 then (((b0 % 8 * 64+b1 % 64) * 64+b2 % 64) * 64+b3 % 64,4) else (65533,1):=by
  unfold decodeN
  have ec:b0 % 8 * 262144+b1 % 64 * 4096+b2 % 64 * 64+b3 % 64=((b0 % 8 * 64+b1 % 64) * 64+b2 % 64) * 64+b3 % 64:=by omega
  rw [if_neg (show ¬ b0 < 128 by omega),if_neg (show ¬ (b0 / 32=6∧(1 < n∧b1 / 64=2)) by omega),if_neg (show ¬ (b0 / 16=14∧(1 < n∧b1 / 64=2)∧(2 < n∧b2 / 64=2)) by omega),ec]
  generalize ((b0 % 8 * 64+b1 % 64) * 64+b2 % 64) * 64+b3 % 64=c at *
  by_cases c1:(1 < n∧b1 / 64=2)∧(2 < n∧b2 / 64=2)∧(3 < n∧b3 / 64=2)
  ·rw [if_pos (show b0 / 8=30∧(1 < n∧b1 / 64=2)∧(2 < n∧b2 / 64=2)∧(3 < n∧b3 / 64=2) from ⟨by omega,c1⟩)]
   by_cases d:65536≤c∧c≤1114111
   ·rw [if_pos (show c≥65536∧(c < 55296∨(57344≤c∧c≤1114111)) by omega),if_pos ⟨c1.2.2.1,c1.1.2,c1.2.1.2,c1.2.2.2,d.1,d.2⟩]
   ·rw [if_neg (show ¬ (c≥65536∧(c < 55296∨(57344≤c∧c≤1114111))) by omega),if_neg (fun x=>d x.2.2.2.2)]
  ·rw [if_neg (show ¬ (b0 / 8=30∧(1 < n∧b1 / 64=2)∧(2 < n∧b2 / 64=2)∧(3 < n∧b3 / 64=2)) from fun x=>c1 x.2),if_neg (fun x=>c1 ⟨⟨by omega,x.2.1⟩,⟨by omega,x.2.2.1⟩,x.1,x.2.2.2.1⟩)]
 rw [e,nxD_if z0e]
end Go.Proofs.YtfondldmmcmloaaGreatDoor
namespace Go.Proofs
open Go.Shelf
def Tryz.lays129_ren:Go.Shelf.Ren:=⟨fun|129=>130|n=>n,fun|53=>23|3=>3|4=>4|46=>40|5=>5|9=>9|n=>n,fun|n=>n⟩
theorem Tryz.lays129:Go.Proofs.Lays.n129 Tryz.prog Tryz.lays129_ren:={
 mixed:=by kernel_rfl
 f129:=Tryz.func130.trans (congrArg some z0a)
 t3:=Tryz.underlying3
 a3:=Tryz.isAgg3
 z3:=Tryz.sizeOf3
 v3:=Tryz.zeroValue3
 t4:=Tryz.underlying4
 a4:=Tryz.isAgg4
 z4:=Tryz.sizeOf4
 v4:=Tryz.zeroValue4
 t5:=Tryz.underlying5
 a5:=Tryz.isAgg5
 z5:=Tryz.sizeOf5
 v5:=Tryz.zeroValue5
 t9:=Tryz.underlying9
 a9:=Tryz.isAgg9
 z9:=Tryz.sizeOf9
 v9:=Tryz.zeroValue9
 t46:=Tryz.underlying40
 a46:=Tryz.isAgg40
 z46:=Tryz.sizeOf40
 v46:=Tryz.zeroValue40
 t53:=Tryz.underlying23
 a53:=Tryz.isAgg23
 z53:=Tryz.sizeOf23
 v53:=Tryz.zeroValue23 }
theorem Tryz.bits_Len64 (x:Int) (w:World) (h0:0≤x) (h1:x≤18446744073709551615) :
  Calls Tryz.prog 130 #[.int .u64 x] w fun e w'=>e=.returned (.int .i64 (Lib.bitLen x.toNat))∧w'=w:=Any.bits_Len64 Tryz.lays129 x w h0 h1
open Go.Lib in
open Go.Lib in
def Tryz.lays107_ren:Go.Shelf.Ren:=⟨fun|107=>73|108=>90|n=>n,fun|28=>43|3=>3|4=>4|0=>0|n=>n,fun|n=>n⟩
theorem Tryz.lays107:Go.Proofs.Lays.n107 Tryz.prog Tryz.lays107_ren:={
 mixed:=by kernel_rfl
 f107:=Tryz.func73.trans (congrArg some z0a)
 f108:=Tryz.func90.trans (congrArg some z0a)
 t0:=Tryz.underlying0
 a0:=Tryz.isAgg0
 z0:=Tryz.sizeOf0
 v0:=Tryz.zeroValue0
 t3:=Tryz.underlying3
 a3:=Tryz.isAgg3
 z3:=Tryz.sizeOf3
 v3:=Tryz.zeroValue3
 t4:=Tryz.underlying4
 a4:=Tryz.isAgg4
 z4:=Tryz.sizeOf4
 v4:=Tryz.zeroValue4
 t28:=Tryz.underlying43
 a28:=Tryz.isAgg43
 z28:=Tryz.sizeOf43
 v28:=Tryz.zeroValue43 }
open Go.Lib in
theorem Tryz.slices_Contains_int (b off n c:Nat) (zs:List Int) (x:Int) (w:World) (hz:n≤zs.length) (hbig:n≤9223372036854775807) (hc:∀ j,j < zs.length→w.cell? ⟨b,off+j,none⟩=some (.int .i64 (zs.getD j 0))) :
  Calls Tryz.prog 73 #[.slice (some ⟨b,off,none⟩) n c,.int .i64 x] w fun e w'=>e=.returned (.bool ((zs.take n).contains x))∧w'=w:=Any.slices_Contains_int Tryz.lays107 b off n c zs x w hz hbig hc
open Go.Lib in
theorem Tryz.slices_Contains_int_empty (a:Option Addr) (c:Nat) (x:Int) (w:World) :
  Calls Tryz.prog 73 #[.slice a 0 c,.int .i64 x] w fun e w'=>e=.returned (.bool false)∧w'=w:=Any.slices_Contains_int_empty Tryz.lays107 a c x w
open Go.Lib in
open Go.Lib in
def Tryz.lays110_ren:Go.Shelf.Ren:=⟨fun|110=>44|109=>68|n=>n,fun|31=>29|9=>9|4=>4|3=>3|0=>0|n=>n,fun|n=>n⟩
theorem Tryz.lays110:Go.Proofs.Lays.n110 Tryz.prog Tryz.lays110_ren:={
 mixed:=by kernel_rfl
 f109:=Tryz.func68.trans (congrArg some z0a)
 f110:=Tryz.func44.trans (congrArg some z0a)
 t0:=Tryz.underlying0
 a0:=Tryz.isAgg0
 z0:=Tryz.sizeOf0
 v0:=Tryz.zeroValue0
 t3:=Tryz.underlying3
 a3:=Tryz.isAgg3
 z3:=Tryz.sizeOf3
 v3:=Tryz.zeroValue3
 t4:=Tryz.underlying4
 a4:=Tryz.isAgg4
 z4:=Tryz.sizeOf4
 v4:=Tryz.zeroValue4
 t9:=Tryz.underlying9
 a9:=Tryz.isAgg9
 z9:=Tryz.sizeOf9
 v9:=Tryz.zeroValue9
 t31:=Tryz.underlying29
 a31:=Tryz.isAgg29
 z31:=Tryz.sizeOf29
 v31:=Tryz.zeroValue29 }
open Go.Lib in
theorem Tryz.slices_Contains_string (b off n c:Nat) (zs:List ByteArray) (x:ByteArray) (w:World) (hz:n≤zs.length) (hbig:n≤9223372036854775807) (hc:∀ j,j < zs.length→w.cell? ⟨b,off+j,none⟩=some (.string (zs.getD j ByteArray.empty))) :
  Calls Tryz.prog 44 #[.slice (some ⟨b,off,none⟩) n c,.string x] w fun e w'=>e=.returned (.bool (Lib.containsS (zs.take n) x))∧w'=w:=Any.slices_Contains_string Tryz.lays110 b off n c zs x w hz hbig hc
open Go.Lib in
theorem Tryz.slices_Contains_string_empty (a:Option Addr) (c:Nat) (x:ByteArray) (w:World) :
  Calls Tryz.prog 44 #[.slice a 0 c,.string x] w fun e w'=>e=.returned (.bool false)∧w'=w:=Any.slices_Contains_string_empty Tryz.lays110 a c x w
def Tryz.lays7_29_ren:Go.Shelf.Ren:=⟨fun|29=>118|n=>n,fun|22=>23|3=>3|4=>4|25=>40|54=>145|0=>0|5=>5|n=>n,fun|1=>2|n=>n⟩
theorem Tryz.lays7_29:Go.Proofs.Lays7.n29 Tryz.prog Tryz.lays7_29_ren:={
 mixed:=by kernel_rfl
 f29:=Tryz.func118.trans (congrArg some z0a)
 t0:=Tryz.underlying0
 a0:=Tryz.isAgg0
 z0:=Tryz.sizeOf0
 v0:=Tryz.zeroValue0
 i0:=by kernel_rfl
 t3:=Tryz.underlying3
 a3:=Tryz.isAgg3
 z3:=Tryz.sizeOf3
 v3:=Tryz.zeroValue3
 i3:=by kernel_rfl
 t4:=Tryz.underlying4
 a4:=Tryz.isAgg4
 z4:=Tryz.sizeOf4
 v4:=Tryz.zeroValue4
 i4:=by kernel_rfl
 t5:=Tryz.underlying5
 a5:=Tryz.isAgg5
 z5:=Tryz.sizeOf5
 v5:=Tryz.zeroValue5
 i5:=by kernel_rfl
 t22:=Tryz.underlying23
 a22:=Tryz.isAgg23
 z22:=Tryz.sizeOf23
 v22:=Tryz.zeroValue23
 i22:=by kernel_rfl
 t25:=Tryz.underlying40
 a25:=Tryz.isAgg40
 z25:=Tryz.sizeOf40
 v25:=Tryz.zeroValue40
 i25:=by kernel_rfl
 t54:=Tryz.underlying145
 a54:=Tryz.isAgg145
 z54:=Tryz.sizeOf145
 g1:=by kernel_rfl }
open Go.RowKit Go.Lib in
theorem Tryz.bits_TrailingZeros64 (x:Nat) (hx:x < 18446744073709551616) (w:World) (hT:x≠0→TabAt 2 Lib.deBruijn64tab w) :
  Calls Tryz.prog 118 #[.int .u64 x] w fun e w'=>e=.returned (.int .i64 (Lib.ctz 64 x))∧w'=w:=Any7.bits_TrailingZeros64 Tryz.lays7_29 x hx w hT
def Tryz.lays196_ren:Go.Shelf.Ren:=⟨fun|196=>93|259=>102|n=>n,fun|9=>9|4=>4|3=>3|5=>5|12=>12|119=>118|0=>0|46=>40|139=>121|138=>120|53=>23|n=>n,fun|3=>0|4=>1|n=>n⟩
theorem Tryz.lays196:Go.Proofs.Lays.n196 Tryz.prog Tryz.lays196_ren:={
 mixed:=by kernel_rfl
 f196:=Tryz.func93.trans (congrArg some z0a)
 f259:=Tryz.func102.trans (congrArg some z0a)
 t0:=Tryz.underlying0
 a0:=Tryz.isAgg0
 z0:=Tryz.sizeOf0
 v0:=Tryz.zeroValue0
 t3:=Tryz.underlying3
 a3:=Tryz.isAgg3
 z3:=Tryz.sizeOf3
 v3:=Tryz.zeroValue3
 t4:=Tryz.underlying4
 a4:=Tryz.isAgg4
 z4:=Tryz.sizeOf4
 v4:=Tryz.zeroValue4
 t5:=Tryz.underlying5
 a5:=Tryz.isAgg5
 z5:=Tryz.sizeOf5
 v5:=Tryz.zeroValue5
 t9:=Tryz.underlying9
 a9:=Tryz.isAgg9
 z9:=Tryz.sizeOf9
 v9:=Tryz.zeroValue9
 t12:=Tryz.underlying12
 a12:=Tryz.isAgg12
 z12:=Tryz.sizeOf12
 v12:=Tryz.zeroValue12
 t46:=Tryz.underlying40
 a46:=Tryz.isAgg40
 z46:=Tryz.sizeOf40
 v46:=Tryz.zeroValue40
 t53:=Tryz.underlying23
 a53:=Tryz.isAgg23
 z53:=Tryz.sizeOf23
 v53:=Tryz.zeroValue23
 t119:=Tryz.underlying118
 a119:=Tryz.isAgg118
 z119:=Tryz.sizeOf118
 t138:=Tryz.underlying120
 a138:=Tryz.isAgg120
 z138:=Tryz.sizeOf120
 v138:=Tryz.zeroValue120
 t139:=Tryz.underlying121
 a139:=Tryz.isAgg121
 z139:=Tryz.sizeOf121
 v139:=Tryz.zeroValue121
 g3:=by kernel_rfl
 g4:=by kernel_rfl }
open Go.RowKit Go.Lib in
theorem Tryz.utf8_ValidString (s:ByteArray) (w:World) (hs:s.size≤9223372036854775807) (hT:Lib.Utf8Tabs 0 1 w) :
  Calls Tryz.prog 93 #[.string s] w fun e w'=>e=.returned (.bool (Lib.validD s.data.toList))∧Below w.heap.size w w':=Any.utf8_ValidString Tryz.lays196 s w hs hT
end Go.Proofs
namespace Go.Proofs.YtfondldmmcmloaaGreatDoor

def bl (n:Nat):Nat:=if n=0 then 0 else Nat.log2 n+1
theorem bl_zero:bl 0=0:=by simp [bl]
theorem bl_pos {n:Nat} (h:0 < n):1≤bl n:=by unfold bl;rw [if_neg z0c];omega
theorem lt_two_pow_bl (n:Nat):n < 2 ^ bl n:=by
 unfold bl
 split
 ·subst n;decide
 ·exact Nat.lt_log2_self
theorem two_pow_bl_le {n:Nat} (h:0 < n):2 ^ (bl n - 1)≤n:=by
 unfold bl
 rw [if_neg z0c]
 exact Nat.log2_self_le z0c
theorem bl_le_iff (n k:Nat):bl n≤k↔n < 2 ^ k:=by
 constructor
 ·intro h
  exact Nat.lt_of_lt_of_le (lt_two_pow_bl n) (Nat.pow_le_pow_right z0e h)
 ·intro h
  by_cases h0:n=0
  ·subst h0;simp [bl]
  ·have h1:=two_pow_bl_le (n:=n) z0c
   have h2:2 ^ (bl n - 1) < 2 ^ k:=Nat.lt_of_le_of_lt h1 h
   have h3:bl n - 1 < k:=by
    apply Nat.lt_of_not_le
    intro hle
    have:=Nat.pow_le_pow_right (n:=2) z0e hle
    omega
   omega
theorem bl_eq_iff {n k:Nat} (h1:2 ^ k≤n) (h2:n < 2 ^ (k+1)):bl n=k+1:=by
 have a:=(bl_le_iff n (k+1)).2 h2
 have b:¬ bl n≤k:=by rw [bl_le_iff];omega
 omega
theorem bl_mul_two_pow {n:Nat} (h:0 < n) (k:Nat):bl (n * 2 ^ k)=bl n+k:=by
 have h1:=two_pow_bl_le h
 have h2:=lt_two_pow_bl n
 have h3:=bl_pos h
 have e:bl n+k=(bl n - 1+k)+1:=by omega
 rw [e]
 apply bl_eq_iff
 ·rw [Nat.pow_add];exact Nat.mul_le_mul_right _ h1
 ·rw [show bl n - 1+k+1=bl n+k from by omega,Nat.pow_add]
  exact Nat.mul_lt_mul_of_pos_right h2 (Nat.two_pow_pos k)
theorem bl_lt_256_iff {m k:Nat} (h:0 < m):bl m+k≤256↔m * 2 ^ k < 2 ^ 256:=by
 rw [← bl_mul_two_pow h,bl_le_iff]
theorem bitLen_eq (x:Nat) (h:x < 18446744073709551616):Lib.bitLen x=bl x:=by
 by_cases h0:x=0
 ·subst h0;decide
 ·obtain ⟨h1,h2,h3⟩:=Lib.bitLenAux_bounds 64 x h h0
  change 1≤Lib.bitLen x at h1
  change 2 ^ (Lib.bitLen x - 1)≤x at h2
  change x < 2 ^ Lib.bitLen x at h3
  have:=bl_eq_iff (n:=x) (k:=Lib.bitLen x - 1) h2 (by rw [show Lib.bitLen x - 1+1=Lib.bitLen x from by omega];exact h3)
  omega

def tz (n:Nat):Nat:=if n=0 then 0 else Lib.ctzFrom n n
theorem tz_zero:tz 0=0:=by simp [tz]
theorem tz_spec {n:Nat} (h:0 < n):∃ m,n=2 ^ tz n * (2 * m+1):=by
 obtain ⟨m,hm,_⟩:=Lib.ctzFrom_spec n n h Nat.lt_two_pow_self
 refine ⟨m,?_⟩
 unfold tz
 rw [if_neg z0c]
 exact hm
theorem pow_odd_unique {a b m k:Nat} (h:2 ^ a * (2 * m+1)=2 ^ b * (2 * k+1)):a=b∧m=k:=by
 induction a generalizing b with
 | zero=>
  cases b with
  | zero=>simp at h;omega
  | succ b=>
   rw [Nat.pow_succ,Nat.mul_assoc,Nat.mul_left_comm] at h
   omega
 | succ a ih=>
  cases b with
  | zero=>
   rw [Nat.pow_succ,Nat.mul_assoc,Nat.mul_left_comm] at h
   omega
  | succ b=>
   have h':2 ^ a * (2 * m+1)=2 ^ b * (2 * k+1):=by
    rw [Nat.pow_succ,Nat.pow_succ,Nat.mul_assoc,Nat.mul_left_comm,Nat.mul_assoc (2 ^ b),Nat.mul_left_comm (2 ^ b)] at h
    omega
   obtain ⟨h1,h2⟩:=ih h'
   exact ⟨by omega,h2⟩
theorem tz_of {n k m:Nat} (h:n=2 ^ k * (2 * m+1)):tz n=k:=by
 have h0:0 < n:=by rw [h];exact Nat.mul_pos (Nat.two_pow_pos k) z0c
 obtain ⟨m',h'⟩:=tz_spec h0
 exact (pow_odd_unique (h'.symm.trans h)).1
theorem ctz64_eq {x:Nat} (h0:0 < x) (h:x < 18446744073709551616):Lib.ctz 64 x=tz x:=by
 obtain ⟨m,hm,_⟩:=Lib.ctzFrom_spec 64 x h0 h
 rw [tz_of hm]
 unfold Lib.ctz
 rw [if_neg z0c]
theorem two_pow_tz_dvd (n:Nat):2 ^ tz n ∣ n:=by
 by_cases h:n=0
 ·subst h;exact Nat.dvd_zero _
 ·obtain ⟨m,hm⟩:=tz_spec (n:=n) z0c
  exact ⟨_,hm⟩
theorem odd_part_mul (n:Nat):n / 2 ^ tz n * 2 ^ tz n=n:=Nat.div_mul_cancel (two_pow_tz_dvd n)
theorem odd_part_odd {n:Nat} (h:0 < n):n / 2 ^ tz n % 2=1:=by
 obtain ⟨m,hm⟩:=tz_spec h
 have e:n / 2 ^ tz n=2 * m+1:=by
  generalize tz n=t at *
  rw [hm]
  exact Nat.mul_div_cancel_left _ (Nat.two_pow_pos _)
 omega
theorem tz_mul_two_pow {n:Nat} (h:0 < n) (k:Nat):tz (n * 2 ^ k)=tz n+k:=by
 obtain ⟨m,hm⟩:=tz_spec h
 apply tz_of (m:=m)
 rw [Nat.pow_add]
 generalize tz n=t at *
 rw [hm]
 rw [Nat.mul_right_comm]
theorem dvd_iff_le_tz {n:Nat} (h:0 < n) (k:Nat):2 ^ k ∣ n↔k≤tz n:=by
 constructor
 ·rintro ⟨c,rfl⟩
  have hc:0 < c:=Nat.pos_of_ne_zero (by rintro rfl;simp at h)
  rw [Nat.mul_comm,tz_mul_two_pow hc]
  omega
 ·intro hk
  exact Nat.dvd_trans (Nat.pow_dvd_pow 2 hk) (two_pow_tz_dvd n)
theorem tz_lt_bl {n:Nat} (h:0 < n):tz n < bl n:=by
 have h1:2 ^ tz n≤n:=Nat.le_of_dvd h (two_pow_tz_dvd n)
 have:¬ bl n≤tz n:=by rw [bl_le_iff];omega
 omega

def lm (n i:Nat):Nat:=n / 2 ^ (64 * i) % 2 ^ 64
def of4 (a b c d:Nat):Nat:=a+b * 2 ^ 64+c * 2 ^ 128+d * 2 ^ 192
theorem lm_lt (n i:Nat):lm n i < 18446744073709551616:=Nat.mod_lt _ z0e
theorem of4_lm (n:Nat) (h:n < 2 ^ 256):of4 (lm n 0) (lm n 1) (lm n 2) (lm n 3)=n:=by
 simp only [of4,lm]
 omega
theorem of4_lt {a b c d:Nat} (ha:a < 2 ^ 64) (hb:b < 2 ^ 64) (hc:c < 2 ^ 64) (hd:d < 2 ^ 64):of4 a b c d < 2 ^ 256:=by
 simp only [of4];omega
theorem lm_of4 {a b c d:Nat} (ha:a < 2 ^ 64) (hb:b < 2 ^ 64) (hc:c < 2 ^ 64) (hd:d < 2 ^ 64) :
  lm (of4 a b c d) 0=a∧lm (of4 a b c d) 1=b∧lm (of4 a b c d) 2=c∧lm (of4 a b c d) 3=d:=by
 simp only [of4,lm]
 omega
theorem lm_inj {m n:Nat} (hm:m < 2 ^ 256) (hn:n < 2 ^ 256) (h0:lm m 0=lm n 0) (h1:lm m 1=lm n 1) (h2:lm m 2=lm n 2) (h3:lm m 3=lm n 3):m=n:=by
 rw [← of4_lm m hm,← of4_lm n hn,h0,h1,h2,h3]
open Go.RowKit

def len4 (a0 a1 a2 a3:Nat):Nat:=if a3≠0 then 192+bl a3 else if a2≠0 then 128+bl a2 else if a1≠0 then 64+bl a1 else bl a0
theorem bl_top {a b:Nat} (k:Nat) (hb:0 < b) (ha:a < 2 ^ k):bl (a+b * 2 ^ k)=k+bl b:=by
 have h1:=two_pow_bl_le hb
 have h2:=lt_two_pow_bl b
 have h3:=bl_pos hb
 have e:k+bl b=(bl b - 1+k)+1:=by omega
 rw [e]
 apply bl_eq_iff
 ·rw [Nat.pow_add]
  exact Nat.le_trans (Nat.mul_le_mul_right _ h1) (Nat.le_add_left _ _)
 ·rw [show bl b - 1+k+1=bl b+k from by omega,Nat.pow_add]
  calc a+b * 2 ^ k < 2 ^ k+b * 2 ^ k:=by omega
   _=(b+1) * 2 ^ k:=by rw [Nat.add_mul,Nat.one_mul,Nat.add_comm]
   _≤2 ^ bl b * 2 ^ k:=Nat.mul_le_mul_right _ h2
theorem len4_3 {a b c d:Nat} (h:d≠0):len4 a b c d=192+bl d:=if_pos h
theorem len4_2 {a b c:Nat} (h:c≠0):len4 a b c 0=128+bl c:=(if_neg z0c).trans (if_pos h)
theorem len4_1 {a b:Nat} (h:b≠0):len4 a b 0 0=64+bl b:=(if_neg z0c).trans ((if_neg z0c).trans (if_pos h))
theorem len4_0 {a:Nat}:len4 a 0 0 0=bl a:=(if_neg z0c).trans ((if_neg z0c).trans (if_neg z0c))
theorem of4_0 (a:Nat):of4 a 0 0 0=a:=by unfold of4;omega
theorem of4_1 (a b:Nat):of4 a b 0 0=a+b * 2 ^ 64:=by unfold of4;omega
theorem of4_2 (a b c:Nat):of4 a b c 0=a+b * 2 ^ 64+c * 2 ^ 128:=by unfold of4;omega
theorem len4_eq {a b c d:Nat} (ha:a < 18446744073709551616) (hb:b < 18446744073709551616) (hc:c < 18446744073709551616) (_hd:d < 18446744073709551616):len4 a b c d=bl (of4 a b c d):=by
 have h64:a < 2 ^ 64:=by omega
 have h128:a+b * 2 ^ 64 < 2 ^ 128:=by omega
 have h192:a+b * 2 ^ 64+c * 2 ^ 128 < 2 ^ 192:=by omega
 clear ha hb hc _hd
 by_cases h3:d=0
 ·subst h3
  by_cases h2:c=0
  ·subst h2
   by_cases h1:b=0
   ·subst h1
    rw [len4_0,of4_0]
   ·rw [len4_1 h1,of4_1,bl_top 64 (Nat.pos_of_ne_zero h1) h64]
  ·rw [len4_2 h2,of4_2,bl_top 128 (Nat.pos_of_ne_zero h2) h128]
 ·rw [len4_3 h3]
  unfold of4
  rw [bl_top 192 (Nat.pos_of_ne_zero h3) h192]

def slo (a r:Nat):Nat:=a * 2 ^ r % 2 ^ 64
def shi (a r:Nat):Nat:=a / 2 ^ (64 - r)
theorem shi_slo (a r:Nat) (hr:r≤64):a * 2 ^ r=shi a r * 2 ^ 64+slo a r:=by
 unfold shi slo
 have e:2 ^ 64=2 ^ (64 - r) * 2 ^ r:=by rw [← Nat.pow_add];congr 1;omega
 have h:a * 2 ^ r / 2 ^ 64=a / 2 ^ (64 - r):=by
  rw [e,Nat.mul_div_mul_right _ _ (Nat.two_pow_pos r)]
 rw [← h]
 omega
theorem shi_lt {a r:Nat} (hr:r≤64) (ha:a < 2 ^ 64):shi a r < 2 ^ r:=by
 unfold shi
 apply Nat.div_lt_of_lt_mul
 rw [← Nat.pow_add]
 rw [show 64 - r+r=64 from by omega]
 exact ha
theorem slo_dvd (a r:Nat) (hr:r≤64):slo a r % 2 ^ r=0:=by
 unfold slo
 have e:2 ^ 64=2 ^ r * 2 ^ (64 - r):=by rw [← Nat.pow_add];congr 1;omega
 rw [e,Nat.mod_mul_right_mod]
 exact Nat.mul_mod_left _ _
theorem slo_lt (a r:Nat):slo a r < 2 ^ 64:=Nat.mod_lt _ z0e
theorem shi_or {a b r:Nat} (hr:r≤64) (ha:a < 2 ^ 64):shi a r ||| slo b r=shi a r+slo b r:=by
 rw [Nat.or_comm,nat_join r _ _ (slo_dvd b r hr) (shi_lt hr ha),Nat.add_comm]
theorem shi_add_lt {a b r:Nat} (hr:r≤64) (ha:a < 2 ^ 64):shi a r+slo b r < 2 ^ 64:=by
 rw [← shi_or hr ha]
 refine Nat.or_lt_two_pow ?_ (slo_lt _ _)
 exact Nat.lt_of_lt_of_le (shi_lt hr ha) (Nat.pow_le_pow_right z0e hr)
theorem of4_mul (a b c d r:Nat) (hr:r≤64):of4 a b c d * 2 ^ r=slo a r+(shi a r+slo b r) * 2 ^ 64+(shi b r+slo c r) * 2 ^ 128+(shi c r+slo d r) * 2 ^ 192+shi d r * 2 ^ 256:=by
 unfold of4
 have ea:=shi_slo a r hr
 have eb:=shi_slo b r hr
 have ec:=shi_slo c r hr
 have ed:=shi_slo d r hr
 have e:(a+b * 2 ^ 64+c * 2 ^ 128+d * 2 ^ 192) * 2 ^ r=a * 2 ^ r+b * 2 ^ r * 2 ^ 64+c * 2 ^ r * 2 ^ 128+d * 2 ^ r * 2 ^ 192:=by
  simp only [Nat.add_mul,Nat.mul_right_comm _ _ (2 ^ r)]
 rw [e,ea,eb,ec,ed]
 omega
theorem shl_limbs {a b c d:Nat} (ha:a < 2 ^ 64) (hb:b < 2 ^ 64) (hc:c < 2 ^ 64) (_hd:d < 2 ^ 64) (r:Nat) (hr:r≤64) :
  (lm (of4 a b c d * 2 ^ r) 0=slo a r∧lm (of4 a b c d * 2 ^ r) 1=shi a r+slo b r∧lm (of4 a b c d * 2 ^ r) 2=shi b r+slo c r∧lm (of4 a b c d * 2 ^ r) 3=shi c r+slo d r):=by
 rw [of4_mul a b c d r hr]
 have h0:=slo_lt a r
 have h1:=shi_add_lt (b:=b) hr ha
 have h2:=shi_add_lt (b:=c) hr hb
 have h3:=shi_add_lt (b:=d) hr hc
 generalize slo a r=l0 at *
 generalize shi a r+slo b r=l1 at *
 generalize shi b r+slo c r=l2 at *
 generalize shi c r+slo d r=l3 at *
 generalize shi d r=l4 at *
 simp only [lm]
 omega
theorem lm_shift (n q j:Nat):lm (n * 2 ^ (64 * q)) (j+q)=lm n j:=by
 unfold lm
 rw [Nat.mul_add,Nat.pow_add,Nat.mul_div_mul_right _ _ (Nat.two_pow_pos _)]
theorem lm_shift_low (n q j:Nat) (h:j < q):lm (n * 2 ^ (64 * q)) j=0:=by
 unfold lm
 obtain ⟨d,rfl⟩:∃ d,q=j+1+d:=⟨q - j - 1,by omega⟩
 rw [show 64 * (j+1+d)=64 * d+64+64 * j from by omega,Nat.pow_add,Nat.pow_add,← Nat.mul_assoc,Nat.mul_div_cancel _ (Nat.two_pow_pos _),← Nat.mul_assoc,Nat.mul_mod_left]
theorem lm_zero (j:Nat):lm 0 j=0:=by simp [lm]
theorem slo_zero {a:Nat} (h:a < 2 ^ 64):slo a 0=a:=by simp [slo,Nat.mod_eq_of_lt h]
theorem shi_zero {a:Nat} (h:a < 2 ^ 64):shi a 0=0:=by simp [shi,Nat.div_eq_of_lt h]

def shlOk (n:Nat) (k:Int):Bool:=decide (0≤k∧(n=0∨k≤256 - (bl n:Int)))
def shlV (n:Nat) (k:Int):Nat:=if shlOk n k=true then n * 2 ^ k.toNat else 0
theorem shlOk_iff {n:Nat} {k:Int} (h:0 < n):shlOk n k=true↔0≤k∧n * 2 ^ k.toNat < 2 ^ 256:=by
 unfold shlOk
 rw [decide_eq_true_iff]
 constructor
 ·rintro ⟨h0,h1|h1⟩
  ·omega
  ·exact ⟨h0,(bl_lt_256_iff h).1 z0c⟩
 ·rintro ⟨h0,h1⟩
  have:=(bl_lt_256_iff h).2 h1
  exact ⟨h0,.inr z0c⟩
theorem wlo {a:Nat} {k:Int} (h0:0≤k):IntKind.u64.wrap ((a:Int) * 2 ^ min (k % 64).toNat 64)=((slo a (k.toNat % 64):Nat):Int):=by
 have e:min (k % 64).toNat 64=k.toNat % 64:=by omega
 rw [e,IntKind.wrap_u64]
 unfold slo
 have:((a:Int) * 2 ^ (k.toNat % 64))=((a * 2 ^ (k.toNat % 64):Nat):Int):=by simp
 rw [this]
 omega
theorem whi {a:Nat} {k:Int} (h0:0≤k):(a:Int) / 2 ^ min (64 - k % 64).toNat 64=((shi a (k.toNat % 64):Nat):Int):=by
 have e:min (64 - k % 64).toNat 64=64 - k.toNat % 64:=by omega
 rw [e]
 unfold shi
 simp
theorem wor {a b:Nat} {r:Nat} (hr:r≤64) (ha:a < 2 ^ 64):bits BinOp.or IntKind.u64 ((shi a r:Nat):Int) ((slo b r:Nat):Int)=((shi a r+slo b r:Nat):Int):=by
 have h1:shi a r < 18446744073709551616:=Nat.lt_of_lt_of_le (shi_lt hr ha) (Nat.pow_le_pow_right (n:=2) z0e hr)
 rw [u64_or_nat _ _ h1 (slo_lt _ _),shi_or hr ha]
theorem or0 {a:Nat} (h:a < 18446744073709551616):bits BinOp.or IntKind.u64 0 (a:Int)=a:=by
 have:=u64_or_nat 0 a z0c h
 simpa using this

theorem still_tail {P:Program} {id:Nat} {Q:Exit→Act→World→Prop} {a:Act} {w:World} {l:List Oper} (n:Nat) (hm:P.follows .mixedOrders=true) (hB:Region.lexTailB .any l.toArray n=true)
  (h:wpStill P l.toArray w.drew (fun a'=>wpList P l.toArray Q (l.drop n) a' w.drew) (l.take n) a):(Code.region id l.toArray true).wp P Q a w:=
 wp_region_still_tail n hm hB h
theorem Of_any (v:Int) (w:World) :
  Calls Tryz.prog 117 #[.int .u64 v] w fun e w'=>e=.returned (.agg #[.int .u64 v,.int .u64 0,.int .u64 0,.int .u64 0])∧Below w.heap.size w w':=by
 go_enter Tryz.func117,Tryz.ntmps117
 go_wp2
 exact bodyPost_ret (v:=.agg #[.int .u64 v,.int .u64 0,.int .u64 0,.int .u64 0]) (by simp [results,Tryz.results117,go_sem]) rfl ⟨rfl,(Below.refl _ _).alloc (Nat.le_refl _) _⟩

theorem Len64_any (x:Nat) (hx:x < 18446744073709551616) (w:World) :
  Calls Tryz.prog 130 #[.int .u64 (x:Int)] w fun e w'=>e=.returned (.int .i64 (bl x:Nat))∧w=w':=by
 refine (Tryz.bits_Len64 (x:Int) w z0c z0c).mono ?_
 rintro e w' ⟨rfl,rfl⟩
 rw [show ((x:Int)).toNat=x from by omega,bitLen_eq x hx]
 exact ⟨rfl,rfl⟩

theorem ne0t {a:Nat} (h:a≠0):(((a:Nat):Int) != 0)=true:=by simp;omega
theorem ne0f {a:Nat} (h:a=0):(((a:Nat):Int) != 0)=false:=by simp;omega
theorem bl64 {a:Nat} (h:a < 18446744073709551616):bl a≤64:=(bl_le_iff a 64).2 h

theorem Len_any (a0 a1 a2 a3:Nat) (h0:a0 < 18446744073709551616) (h1:a1 < 18446744073709551616) (h2:a2 < 18446744073709551616) (h3:a3 < 18446744073709551616) (w:World) :
  Calls Tryz.prog 119 #[.agg #[.int .u64 a0,.int .u64 a1,.int .u64 a2,.int .u64 a3]] w fun e w'=>e=.returned (.int .i64 (len4 a0 a1 a2 a3:Nat))∧Below w.heap.size w w':=by
 have b0:=bl64 h0
 have b1:=bl64 h1
 have b2:=bl64 h2
 have b3:=bl64 h3
 by_cases c3:a3=0
 ·by_cases c2:a2=0
  ·by_cases c1:a1=0
   ·by_cases c0:a0=0
    ·have t3:=ne0f c3;have t2:=ne0f c2;have t1:=ne0f c1;have t0:=ne0f c0
     have e:len4 a0 a1 a2 a3=0:=by simp [len4,c3,c2,c1,c0,bl_zero]
     clear c0 c1 c2 c3
     go_enter Tryz.func119,Tryz.ntmps119
     go_wp2_with fail
     go_rounds 5
     go_ret
     exact ⟨by simp [e],(Below.refl _ _).alloc (Nat.le_refl _) _⟩
    ·have t3:=ne0f c3;have t2:=ne0f c2;have t1:=ne0f c1;have t0:=ne0t c0
     have E:=Lib.hid (show len4 a0 a1 a2 a3=bl a0 by simp [len4,c3,c2,c1])
     clear c0 c1 c2 c3
     go_enter Tryz.func119,Tryz.ntmps119
     go_wp2_with fail
     refine wp_loop_rounds 5 ?_
     iterate 4 (rw [rounds_succ];go_wp2_with ((go_at_call 130;refine (Len64_any _ z0w _).mono ?_;rintro e w' ⟨rfl,rfl⟩)))
     go_ret
     exact ⟨by simp [E.out],(Below.refl _ _).alloc (Nat.le_refl _) _⟩
   ·have t3:=ne0f c3;have t2:=ne0f c2;have t1:=ne0t c1
    have E:=Lib.hid (show len4 a0 a1 a2 a3=64+bl a1 by simp [len4,c3,c2,c1])
    clear c1 c2 c3
    go_enter Tryz.func119,Tryz.ntmps119
    go_wp2_with fail
    refine wp_loop_rounds 5 ?_
    iterate 3 (rw [rounds_succ];go_wp2_with ((go_at_call 130;refine (Len64_any _ z0w _).mono ?_;rintro e w' ⟨rfl,rfl⟩)))
    go_ret
    exact ⟨by simp [E.out],(Below.refl _ _).alloc (Nat.le_refl _) _⟩
  ·have t3:=ne0f c3;have t2:=ne0t c2
   have E:=Lib.hid (show len4 a0 a1 a2 a3=128+bl a2 by simp [len4,c3,c2])
   clear c2 c3
   go_enter Tryz.func119,Tryz.ntmps119
   go_wp2_with fail
   refine wp_loop_rounds 5 ?_
   iterate 2 (rw [rounds_succ];go_wp2_with ((go_at_call 130;refine (Len64_any _ z0w _).mono ?_;rintro e w' ⟨rfl,rfl⟩)))
   go_ret
   exact ⟨by simp [E.out],(Below.refl _ _).alloc (Nat.le_refl _) _⟩
 ·have t3:=ne0t c3
  have E:=Lib.hid (show len4 a0 a1 a2 a3=192+bl a3 by simp [len4,c3])
  clear c3
  go_enter Tryz.func119,Tryz.ntmps119
  go_wp2_with fail
  refine wp_loop_rounds 5 ?_
  iterate 1 (rw [rounds_succ];go_wp2_with ((go_at_call 130;refine (Len64_any _ z0w _).mono ?_;rintro e w' ⟨rfl,rfl⟩)))
  go_ret
  exact ⟨by simp [E.out],(Below.refl _ _).alloc (Nat.le_refl _) _⟩
end Go.Proofs.YtfondldmmcmloaaGreatDoor
