/- Shelf, Math, MathShl, NatA, NatB, Gen, VT, VFew. -/
import Derived.Shelf.Strconv.Itoa0
import Derived.Shelf.Slices.Turned
import Derived.Shelf.Spec.TrailingZeros
import Derived.Shelf.Unicode.ValidAny
import Derived.Shelf.Spec.BitsCarry
import Derived.Test.YtfondldmmcmloaaDoorProg
import Derived.Lib.BitFns
import Derived.Lib.ItoaNum
import Derived.Lib.TrailingZeros
import Derived.WalkKit
import Derived.WalkSpells
import Derived.WalkLawsBesides
import Derived.StillTailTactics
import Derived.Deep.QuietTactic
import Derived.BigQuiet
import Derived.Handy
import Derived.Outline
import Derived.Lib.Hide
import Derived.Test.YtfondldmmcmloaaDoorRows
import Derived.Deep.RegionHeld3
import Derived.Deep.DeepCutAuto
import Derived.LoopN
import Derived.Test.YtfondldmmcmloaaDoorPd0
set_option maxRecDepth 1000000
set_option maxHeartbeats 8000000
namespace Go.Proofs
open Go.Shelf
def Tryd.lays129_ren:Go.Shelf.Ren:=⟨fun|129=>90|n=>n,fun|53=>22|3=>3|4=>4|46=>24|5=>5|9=>9|n=>n,fun|n=>n⟩
theorem Tryd.lays129:Go.Proofs.Lays.n129 Tryd.prog Tryd.lays129_ren:={
 mixed:=by kernel_rfl
 f129:=Tryd.func90.trans (congrArg some z0a)
 t3:=Tryd.underlying3
 a3:=Tryd.isAgg3
 z3:=Tryd.sizeOf3
 v3:=Tryd.zeroValue3
 t4:=Tryd.underlying4
 a4:=Tryd.isAgg4
 z4:=Tryd.sizeOf4
 v4:=Tryd.zeroValue4
 t5:=Tryd.underlying5
 a5:=Tryd.isAgg5
 z5:=Tryd.sizeOf5
 v5:=Tryd.zeroValue5
 t9:=Tryd.underlying9
 a9:=Tryd.isAgg9
 z9:=Tryd.sizeOf9
 v9:=Tryd.zeroValue9
 t46:=Tryd.underlying24
 a46:=Tryd.isAgg24
 z46:=Tryd.sizeOf24
 v46:=Tryd.zeroValue24
 t53:=Tryd.underlying22
 a53:=Tryd.isAgg22
 z53:=Tryd.sizeOf22
 v53:=Tryd.zeroValue22 }
theorem Tryd.bits_Len64 (x:Int) (w:World) (h0:0≤x) (h1:x≤18446744073709551615) :
  Calls Tryd.prog 90 #[.int .u64 x] w fun e w'=>e=.returned (.int .i64 (Lib.bitLen x.toNat))∧w'=w:=Any.bits_Len64 Tryd.lays129 x w h0 h1
open Go.Lib in
open Go.Lib in
def Tryd.lays107_ren:Go.Shelf.Ren:=⟨fun|107=>55|108=>70|n=>n,fun|28=>53|3=>3|4=>4|0=>0|n=>n,fun|n=>n⟩
theorem Tryd.lays107:Go.Proofs.Lays.n107 Tryd.prog Tryd.lays107_ren:={
 mixed:=by kernel_rfl
 f107:=Tryd.func55.trans (congrArg some z0a)
 f108:=Tryd.func70.trans (congrArg some z0a)
 t0:=Tryd.underlying0
 a0:=Tryd.isAgg0
 z0:=Tryd.sizeOf0
 v0:=Tryd.zeroValue0
 t3:=Tryd.underlying3
 a3:=Tryd.isAgg3
 z3:=Tryd.sizeOf3
 v3:=Tryd.zeroValue3
 t4:=Tryd.underlying4
 a4:=Tryd.isAgg4
 z4:=Tryd.sizeOf4
 v4:=Tryd.zeroValue4
 t28:=Tryd.underlying53
 a28:=Tryd.isAgg53
 z28:=Tryd.sizeOf53
 v28:=Tryd.zeroValue53 }
open Go.Lib in
theorem Tryd.slices_Contains_int (b off n c:Nat) (zs:List Int) (x:Int) (w:World) (hz:n≤zs.length) (hbig:n≤9223372036854775807) (hc:∀ j,j < zs.length→w.cell? ⟨b,off+j,none⟩=some (.int .i64 (zs.getD j 0))) :
  Calls Tryd.prog 55 #[.slice (some ⟨b,off,none⟩) n c,.int .i64 x] w fun e w'=>e=.returned (.bool ((zs.take n).contains x))∧w'=w:=Any.slices_Contains_int Tryd.lays107 b off n c zs x w hz hbig hc
open Go.Lib in
theorem Tryd.slices_Contains_int_empty (a:Option Addr) (c:Nat) (x:Int) (w:World) :
  Calls Tryd.prog 55 #[.slice a 0 c,.int .i64 x] w fun e w'=>e=.returned (.bool false)∧w'=w:=Any.slices_Contains_int_empty Tryd.lays107 a c x w
open Go.Lib in
open Go.Lib in
def Tryd.lays110_ren:Go.Shelf.Ren:=⟨fun|110=>32|109=>48|n=>n,fun|31=>23|9=>9|4=>4|3=>3|0=>0|n=>n,fun|n=>n⟩
theorem Tryd.lays110:Go.Proofs.Lays.n110 Tryd.prog Tryd.lays110_ren:={
 mixed:=by kernel_rfl
 f109:=Tryd.func48.trans (congrArg some z0a)
 f110:=Tryd.func32.trans (congrArg some z0a)
 t0:=Tryd.underlying0
 a0:=Tryd.isAgg0
 z0:=Tryd.sizeOf0
 v0:=Tryd.zeroValue0
 t3:=Tryd.underlying3
 a3:=Tryd.isAgg3
 z3:=Tryd.sizeOf3
 v3:=Tryd.zeroValue3
 t4:=Tryd.underlying4
 a4:=Tryd.isAgg4
 z4:=Tryd.sizeOf4
 v4:=Tryd.zeroValue4
 t9:=Tryd.underlying9
 a9:=Tryd.isAgg9
 z9:=Tryd.sizeOf9
 v9:=Tryd.zeroValue9
 t31:=Tryd.underlying23
 a31:=Tryd.isAgg23
 z31:=Tryd.sizeOf23
 v31:=Tryd.zeroValue23 }
open Go.Lib in
theorem Tryd.slices_Contains_string (b off n c:Nat) (zs:List ByteArray) (x:ByteArray) (w:World) (hz:n≤zs.length) (hbig:n≤9223372036854775807) (hc:∀ j,j < zs.length→w.cell? ⟨b,off+j,none⟩=some (.string (zs.getD j ByteArray.empty))) :
  Calls Tryd.prog 32 #[.slice (some ⟨b,off,none⟩) n c,.string x] w fun e w'=>e=.returned (.bool (Lib.containsS (zs.take n) x))∧w'=w:=Any.slices_Contains_string Tryd.lays110 b off n c zs x w hz hbig hc
open Go.Lib in
theorem Tryd.slices_Contains_string_empty (a:Option Addr) (c:Nat) (x:ByteArray) (w:World) :
  Calls Tryd.prog 32 #[.slice a 0 c,.string x] w fun e w'=>e=.returned (.bool false)∧w'=w:=Any.slices_Contains_string_empty Tryd.lays110 a c x w
def Tryd.lays7_29_ren:Go.Shelf.Ren:=⟨fun|29=>84|n=>n,fun|22=>22|3=>3|4=>4|25=>24|54=>126|0=>0|5=>5|n=>n,fun|1=>2|n=>n⟩
theorem Tryd.lays7_29:Go.Proofs.Lays7.n29 Tryd.prog Tryd.lays7_29_ren:={
 mixed:=by kernel_rfl
 f29:=Tryd.func84.trans (congrArg some z0a)
 t0:=Tryd.underlying0
 a0:=Tryd.isAgg0
 z0:=Tryd.sizeOf0
 v0:=Tryd.zeroValue0
 i0:=by kernel_rfl
 t3:=Tryd.underlying3
 a3:=Tryd.isAgg3
 z3:=Tryd.sizeOf3
 v3:=Tryd.zeroValue3
 i3:=by kernel_rfl
 t4:=Tryd.underlying4
 a4:=Tryd.isAgg4
 z4:=Tryd.sizeOf4
 v4:=Tryd.zeroValue4
 i4:=by kernel_rfl
 t5:=Tryd.underlying5
 a5:=Tryd.isAgg5
 z5:=Tryd.sizeOf5
 v5:=Tryd.zeroValue5
 i5:=by kernel_rfl
 t22:=Tryd.underlying22
 a22:=Tryd.isAgg22
 z22:=Tryd.sizeOf22
 v22:=Tryd.zeroValue22
 i22:=by kernel_rfl
 t25:=Tryd.underlying24
 a25:=Tryd.isAgg24
 z25:=Tryd.sizeOf24
 v25:=Tryd.zeroValue24
 i25:=by kernel_rfl
 t54:=Tryd.underlying126
 a54:=Tryd.isAgg126
 z54:=Tryd.sizeOf126
 g1:=by kernel_rfl }
open Go.RowKit Go.Lib in
theorem Tryd.bits_TrailingZeros64 (x:Nat) (hx:x < 18446744073709551616) (w:World) (hT:x≠0→TabAt 2 Lib.deBruijn64tab w) :
  Calls Tryd.prog 84 #[.int .u64 x] w fun e w'=>e=.returned (.int .i64 (Lib.ctz 64 x))∧w'=w:=Any7.bits_TrailingZeros64 Tryd.lays7_29 x hx w hT
def Tryd.lays196_ren:Go.Shelf.Ren:=⟨fun|196=>73|259=>78|n=>n,fun|9=>9|4=>4|3=>3|5=>5|12=>12|119=>112|0=>0|46=>24|139=>115|138=>114|53=>22|n=>n,fun|3=>0|4=>1|n=>n⟩
theorem Tryd.lays196:Go.Proofs.Lays.n196 Tryd.prog Tryd.lays196_ren:={
 mixed:=by kernel_rfl
 f196:=Tryd.func73.trans (congrArg some z0a)
 f259:=Tryd.func78.trans (congrArg some z0a)
 t0:=Tryd.underlying0
 a0:=Tryd.isAgg0
 z0:=Tryd.sizeOf0
 v0:=Tryd.zeroValue0
 t3:=Tryd.underlying3
 a3:=Tryd.isAgg3
 z3:=Tryd.sizeOf3
 v3:=Tryd.zeroValue3
 t4:=Tryd.underlying4
 a4:=Tryd.isAgg4
 z4:=Tryd.sizeOf4
 v4:=Tryd.zeroValue4
 t5:=Tryd.underlying5
 a5:=Tryd.isAgg5
 z5:=Tryd.sizeOf5
 v5:=Tryd.zeroValue5
 t9:=Tryd.underlying9
 a9:=Tryd.isAgg9
 z9:=Tryd.sizeOf9
 v9:=Tryd.zeroValue9
 t12:=Tryd.underlying12
 a12:=Tryd.isAgg12
 z12:=Tryd.sizeOf12
 v12:=Tryd.zeroValue12
 t46:=Tryd.underlying24
 a46:=Tryd.isAgg24
 z46:=Tryd.sizeOf24
 v46:=Tryd.zeroValue24
 t53:=Tryd.underlying22
 a53:=Tryd.isAgg22
 z53:=Tryd.sizeOf22
 v53:=Tryd.zeroValue22
 t119:=Tryd.underlying112
 a119:=Tryd.isAgg112
 z119:=Tryd.sizeOf112
 t138:=Tryd.underlying114
 a138:=Tryd.isAgg114
 z138:=Tryd.sizeOf114
 v138:=Tryd.zeroValue114
 t139:=Tryd.underlying115
 a139:=Tryd.isAgg115
 z139:=Tryd.sizeOf115
 v139:=Tryd.zeroValue115
 g3:=by kernel_rfl
 g4:=by kernel_rfl }
open Go.RowKit Go.Lib in
theorem Tryd.utf8_ValidString (s:ByteArray) (w:World) (hs:s.size≤9223372036854775807) (hT:Lib.Utf8Tabs 0 1 w) :
  Calls Tryd.prog 73 #[.string s] w fun e w'=>e=.returned (.bool (Lib.validD s.data.toList))∧Below w.heap.size w w':=Any.utf8_ValidString Tryd.lays196 s w hs hT
end Go.Proofs
namespace Go.Proofs.YtfondldmmcmloaaDoor

def bl (n:Nat):Nat:=if n=0 then 0 else Nat.log2 n+1
theorem bl_zero:bl 0=0:=by simp [bl]
theorem bl_pos {n:Nat} (h:0 < n):1≤bl n:=by unfold bl;rw [if_neg z0b];omega
theorem lt_two_pow_bl (n:Nat):n < 2 ^ bl n:=by
 unfold bl
 split
 ·subst n;decide
 ·exact Nat.lt_log2_self
theorem two_pow_bl_le {n:Nat} (h:0 < n):2 ^ (bl n - 1)≤n:=by
 unfold bl
 rw [if_neg z0b]
 exact Nat.log2_self_le z0b
theorem bl_le_iff (n k:Nat):bl n≤k↔n < 2 ^ k:=by
 constructor
 ·intro h
  exact Nat.lt_of_lt_of_le (lt_two_pow_bl n) (Nat.pow_le_pow_right z0g h)
 ·intro h
  by_cases h0:n=0
  ·subst h0;simp [bl]
  ·have h1:=two_pow_bl_le (n:=n) z0b
   have h2:2 ^ (bl n - 1) < 2 ^ k:=Nat.lt_of_le_of_lt h1 h
   have h3:bl n - 1 < k:=by
    apply Nat.lt_of_not_le
    intro hle
    have:=Nat.pow_le_pow_right (n:=2) z0g hle
    omega
   omega
theorem bl_eq_iff {n k:Nat} (h1:2 ^ k≤n) (h2:n < 2 ^ (k+1)):bl n=k+1:=by
 have a:=(bl_le_iff n (k+1)).2 h2
 have b:¬ bl n≤k:=by rw [bl_le_iff];omega
 omega
theorem bitLen_eq (x:Nat) (h:x < 18446744073709551616):Lib.bitLen x=bl x:=by
 by_cases h0:x=0
 ·subst h0;decide
 ·obtain ⟨h1,h2,h3⟩:=Lib.bitLenAux_bounds 64 x h h0
  change 1≤Lib.bitLen x at h1
  change 2 ^ (Lib.bitLen x - 1)≤x at h2
  change x < 2 ^ Lib.bitLen x at h3
  have:=bl_eq_iff (n:=x) (k:=Lib.bitLen x - 1) h2 (by rw [show Lib.bitLen x - 1+1=Lib.bitLen x from by omega];exact h3)
  omega

def tz (n:Nat):Nat:=if n=0 then 0 else Lib.ctzFrom n n
theorem tz_zero:tz 0=0:=by simp [tz]
theorem tz_spec {n:Nat} (h:0 < n):∃ m,n=2 ^ tz n * (2 * m+1):=by
 obtain ⟨m,hm,_⟩:=Lib.ctzFrom_spec n n h Nat.lt_two_pow_self
 refine ⟨m,?_⟩
 unfold tz
 rw [if_neg z0b]
 exact hm
theorem pow_odd_unique {a b m k:Nat} (h:2 ^ a * (2 * m+1)=2 ^ b * (2 * k+1)):a=b∧m=k:=by
 induction a generalizing b with
 | zero=>
  cases b with
  | zero=>simp at h;omega
  | succ b=>
   rw [Nat.pow_succ,Nat.mul_assoc,Nat.mul_left_comm] at h
   omega
 | succ a ih=>
  cases b with
  | zero=>
   rw [Nat.pow_succ,Nat.mul_assoc,Nat.mul_left_comm] at h
   omega
  | succ b=>
   have h':2 ^ a * (2 * m+1)=2 ^ b * (2 * k+1):=by
    rw [Nat.pow_succ,Nat.pow_succ,Nat.mul_assoc,Nat.mul_left_comm,Nat.mul_assoc (2 ^ b),Nat.mul_left_comm (2 ^ b)] at h
    omega
   obtain ⟨h1,h2⟩:=ih h'
   exact ⟨by omega,h2⟩
theorem tz_of {n k m:Nat} (h:n=2 ^ k * (2 * m+1)):tz n=k:=by
 have h0:0 < n:=by rw [h];exact Nat.mul_pos (Nat.two_pow_pos k) z0b
 obtain ⟨m',h'⟩:=tz_spec h0
 exact (pow_odd_unique (h'.symm.trans h)).1
theorem ctz64_eq {x:Nat} (h0:0 < x) (h:x < 18446744073709551616):Lib.ctz 64 x=tz x:=by
 obtain ⟨m,hm,_⟩:=Lib.ctzFrom_spec 64 x h0 h
 rw [tz_of hm]
 unfold Lib.ctz
 rw [if_neg z0b]
theorem two_pow_tz_dvd (n:Nat):2 ^ tz n ∣ n:=by
 by_cases h:n=0
 ·subst h;exact Nat.dvd_zero _
 ·obtain ⟨m,hm⟩:=tz_spec (n:=n) z0b
  exact ⟨_,hm⟩
theorem tz_mul_two_pow {n:Nat} (h:0 < n) (k:Nat):tz (n * 2 ^ k)=tz n+k:=by
 obtain ⟨m,hm⟩:=tz_spec h
 apply tz_of (m:=m)
 rw [Nat.pow_add]
 generalize tz n=t at *
 rw [hm]
 rw [Nat.mul_right_comm]
theorem tz_lt_bl {n:Nat} (h:0 < n):tz n < bl n:=by
 have h1:2 ^ tz n≤n:=Nat.le_of_dvd h (two_pow_tz_dvd n)
 have:¬ bl n≤tz n:=by rw [bl_le_iff];omega
 omega

def lm (n i:Nat):Nat:=n / 2 ^ (64 * i) % 2 ^ 64
def of4 (a b c d:Nat):Nat:=a+b * 2 ^ 64+c * 2 ^ 128+d * 2 ^ 192
theorem lm_lt (n i:Nat):lm n i < 18446744073709551616:=Nat.mod_lt _ z0g
theorem of4_lm (n:Nat) (h:n < 2 ^ 256):of4 (lm n 0) (lm n 1) (lm n 2) (lm n 3)=n:=by
 simp only [of4,lm]
 omega
theorem of4_lt {a b c d:Nat} (ha:a < 2 ^ 64) (hb:b < 2 ^ 64) (hc:c < 2 ^ 64) (hd:d < 2 ^ 64):of4 a b c d < 2 ^ 256:=by
 simp only [of4];omega
theorem lm_of4 {a b c d:Nat} (ha:a < 2 ^ 64) (hb:b < 2 ^ 64) (hc:c < 2 ^ 64) (hd:d < 2 ^ 64) :
  lm (of4 a b c d) 0=a∧lm (of4 a b c d) 1=b∧lm (of4 a b c d) 2=c∧lm (of4 a b c d) 3=d:=by
 simp only [of4,lm]
 omega
theorem lm_inj {m n:Nat} (hm:m < 2 ^ 256) (hn:n < 2 ^ 256) (h0:lm m 0=lm n 0) (h1:lm m 1=lm n 1) (h2:lm m 2=lm n 2) (h3:lm m 3=lm n 3):m=n:=by
 rw [← of4_lm m hm,← of4_lm n hn,h0,h1,h2,h3]
open Go.RowKit

def len4 (a0 a1 a2 a3:Nat):Nat:=if a3≠0 then 192+bl a3 else if a2≠0 then 128+bl a2 else if a1≠0 then 64+bl a1 else bl a0
theorem bl_top {a b:Nat} (k:Nat) (hb:0 < b) (ha:a < 2 ^ k):bl (a+b * 2 ^ k)=k+bl b:=by
 have h1:=two_pow_bl_le hb
 have h2:=lt_two_pow_bl b
 have h3:=bl_pos hb
 have e:k+bl b=(bl b - 1+k)+1:=by omega
 rw [e]
 apply bl_eq_iff
 ·rw [Nat.pow_add]
  exact Nat.le_trans (Nat.mul_le_mul_right _ h1) (Nat.le_add_left _ _)
 ·rw [show bl b - 1+k+1=bl b+k from by omega,Nat.pow_add]
  calc a+b * 2 ^ k < 2 ^ k+b * 2 ^ k:=by omega
   _=(b+1) * 2 ^ k:=by rw [Nat.add_mul,Nat.one_mul,Nat.add_comm]
   _≤2 ^ bl b * 2 ^ k:=Nat.mul_le_mul_right _ h2
theorem len4_3 {a b c d:Nat} (h:d≠0):len4 a b c d=192+bl d:=if_pos h
theorem len4_2 {a b c:Nat} (h:c≠0):len4 a b c 0=128+bl c:=(if_neg z0b).trans (if_pos h)
theorem len4_1 {a b:Nat} (h:b≠0):len4 a b 0 0=64+bl b:=(if_neg z0b).trans ((if_neg z0b).trans (if_pos h))
theorem len4_0 {a:Nat}:len4 a 0 0 0=bl a:=(if_neg z0b).trans ((if_neg z0b).trans (if_neg z0b))
theorem of4_0 (a:Nat):of4 a 0 0 0=a:=by unfold of4;omega
theorem of4_1 (a b:Nat):of4 a b 0 0=a+b * 2 ^ 64:=by unfold of4;omega
theorem of4_2 (a b c:Nat):of4 a b c 0=a+b * 2 ^ 64+c * 2 ^ 128:=by unfold of4;omega
theorem len4_eq {a b c d:Nat} (ha:a < 18446744073709551616) (hb:b < 18446744073709551616) (hc:c < 18446744073709551616) (_hd:d < 18446744073709551616):len4 a b c d=bl (of4 a b c d):=by
 have h64:a < 2 ^ 64:=by omega
 have h128:a+b * 2 ^ 64 < 2 ^ 128:=by omega
 have h192:a+b * 2 ^ 64+c * 2 ^ 128 < 2 ^ 192:=by omega
 clear ha hb hc _hd
 by_cases h3:d=0
 ·subst h3
  by_cases h2:c=0
  ·subst h2
   by_cases h1:b=0
   ·subst h1
    rw [len4_0,of4_0]
   ·rw [len4_1 h1,of4_1,bl_top 64 (Nat.pos_of_ne_zero h1) h64]
  ·rw [len4_2 h2,of4_2,bl_top 128 (Nat.pos_of_ne_zero h2) h128]
 ·rw [len4_3 h3]
  unfold of4
  rw [bl_top 192 (Nat.pos_of_ne_zero h3) h192]

def slo (a r:Nat):Nat:=a * 2 ^ r % 2 ^ 64
def shi (a r:Nat):Nat:=a / 2 ^ (64 - r)
theorem shi_slo (a r:Nat) (hr:r≤64):a * 2 ^ r=shi a r * 2 ^ 64+slo a r:=by
 unfold shi slo
 have e:2 ^ 64=2 ^ (64 - r) * 2 ^ r:=by rw [← Nat.pow_add];congr 1;omega
 have h:a * 2 ^ r / 2 ^ 64=a / 2 ^ (64 - r):=by
  rw [e,Nat.mul_div_mul_right _ _ (Nat.two_pow_pos r)]
 rw [← h]
 omega
theorem shi_lt {a r:Nat} (hr:r≤64) (ha:a < 2 ^ 64):shi a r < 2 ^ r:=by
 unfold shi
 apply Nat.div_lt_of_lt_mul
 rw [← Nat.pow_add]
 rw [show 64 - r+r=64 from by omega]
 exact ha
theorem slo_dvd (a r:Nat) (hr:r≤64):slo a r % 2 ^ r=0:=by
 unfold slo
 have e:2 ^ 64=2 ^ r * 2 ^ (64 - r):=by rw [← Nat.pow_add];congr 1;omega
 rw [e,Nat.mod_mul_right_mod]
 exact Nat.mul_mod_left _ _
theorem slo_lt (a r:Nat):slo a r < 2 ^ 64:=Nat.mod_lt _ z0g
theorem shi_or {a b r:Nat} (hr:r≤64) (ha:a < 2 ^ 64):shi a r ||| slo b r=shi a r+slo b r:=by
 rw [Nat.or_comm,nat_join r _ _ (slo_dvd b r hr) (shi_lt hr ha),Nat.add_comm]
theorem shi_add_lt {a b r:Nat} (hr:r≤64) (ha:a < 2 ^ 64):shi a r+slo b r < 2 ^ 64:=by
 rw [← shi_or hr ha]
 refine Nat.or_lt_two_pow ?_ (slo_lt _ _)
 exact Nat.lt_of_lt_of_le (shi_lt hr ha) (Nat.pow_le_pow_right z0g hr)
theorem of4_mul (a b c d r:Nat) (hr:r≤64):of4 a b c d * 2 ^ r=slo a r+(shi a r+slo b r) * 2 ^ 64+(shi b r+slo c r) * 2 ^ 128+(shi c r+slo d r) * 2 ^ 192+shi d r * 2 ^ 256:=by
 unfold of4
 have ea:=shi_slo a r hr
 have eb:=shi_slo b r hr
 have ec:=shi_slo c r hr
 have ed:=shi_slo d r hr
 have e:(a+b * 2 ^ 64+c * 2 ^ 128+d * 2 ^ 192) * 2 ^ r=a * 2 ^ r+b * 2 ^ r * 2 ^ 64+c * 2 ^ r * 2 ^ 128+d * 2 ^ r * 2 ^ 192:=by
  simp only [Nat.add_mul,Nat.mul_right_comm _ _ (2 ^ r)]
 rw [e,ea,eb,ec,ed]
 omega
theorem shl_limbs {a b c d:Nat} (ha:a < 2 ^ 64) (hb:b < 2 ^ 64) (hc:c < 2 ^ 64) (_hd:d < 2 ^ 64) (r:Nat) (hr:r≤64) :
  (lm (of4 a b c d * 2 ^ r) 0=slo a r∧lm (of4 a b c d * 2 ^ r) 1=shi a r+slo b r∧lm (of4 a b c d * 2 ^ r) 2=shi b r+slo c r∧lm (of4 a b c d * 2 ^ r) 3=shi c r+slo d r):=by
 rw [of4_mul a b c d r hr]
 have h0:=slo_lt a r
 have h1:=shi_add_lt (b:=b) hr ha
 have h2:=shi_add_lt (b:=c) hr hb
 have h3:=shi_add_lt (b:=d) hr hc
 generalize slo a r=l0 at *
 generalize shi a r+slo b r=l1 at *
 generalize shi b r+slo c r=l2 at *
 generalize shi c r+slo d r=l3 at *
 generalize shi d r=l4 at *
 simp only [lm]
 omega
theorem lm_shift (n q j:Nat):lm (n * 2 ^ (64 * q)) (j+q)=lm n j:=by
 unfold lm
 rw [Nat.mul_add,Nat.pow_add,Nat.mul_div_mul_right _ _ (Nat.two_pow_pos _)]
theorem lm_shift_low (n q j:Nat) (h:j < q):lm (n * 2 ^ (64 * q)) j=0:=by
 unfold lm
 obtain ⟨d,rfl⟩:∃ d,q=j+1+d:=⟨q - j - 1,by omega⟩
 rw [show 64 * (j+1+d)=64 * d+64+64 * j from by omega,Nat.pow_add,Nat.pow_add,← Nat.mul_assoc,Nat.mul_div_cancel _ (Nat.two_pow_pos _),← Nat.mul_assoc,Nat.mul_mod_left]
theorem lm_zero (j:Nat):lm 0 j=0:=by simp [lm]
theorem slo_zero {a:Nat} (h:a < 2 ^ 64):slo a 0=a:=by simp [slo,Nat.mod_eq_of_lt h]
theorem shi_zero {a:Nat} (h:a < 2 ^ 64):shi a 0=0:=by simp [shi,Nat.div_eq_of_lt h]

def shlOk (n:Nat) (k:Int):Bool:=decide (0≤k∧(n=0∨k≤256 - (bl n:Int)))
def shlV (n:Nat) (k:Int):Nat:=if shlOk n k=true then n * 2 ^ k.toNat else 0
theorem wlo {a:Nat} {k:Int} (h0:0≤k):IntKind.u64.wrap ((a:Int) * 2 ^ min (k % 64).toNat 64)=((slo a (k.toNat % 64):Nat):Int):=by
 have e:min (k % 64).toNat 64=k.toNat % 64:=by omega
 rw [e,IntKind.wrap_u64]
 unfold slo
 have:((a:Int) * 2 ^ (k.toNat % 64))=((a * 2 ^ (k.toNat % 64):Nat):Int):=by simp
 rw [this]
 omega
theorem whi {a:Nat} {k:Int} (h0:0≤k):(a:Int) / 2 ^ min (64 - k % 64).toNat 64=((shi a (k.toNat % 64):Nat):Int):=by
 have e:min (64 - k % 64).toNat 64=64 - k.toNat % 64:=by omega
 rw [e]
 unfold shi
 simp
theorem wor {a b:Nat} {r:Nat} (hr:r≤64) (ha:a < 2 ^ 64):bits BinOp.or IntKind.u64 ((shi a r:Nat):Int) ((slo b r:Nat):Int)=((shi a r+slo b r:Nat):Int):=by
 have h1:shi a r < 18446744073709551616:=Nat.lt_of_lt_of_le (shi_lt hr ha) (Nat.pow_le_pow_right (n:=2) z0g hr)
 rw [u64_or_nat _ _ h1 (slo_lt _ _),shi_or hr ha]
theorem or0 {a:Nat} (h:a < 18446744073709551616):bits BinOp.or IntKind.u64 0 (a:Int)=a:=by
 have:=u64_or_nat 0 a z0b h
 simpa using this

theorem still_tail {P:Program} {id:Nat} {Q:Exit→Act→World→Prop} {a:Act} {w:World} {l:List Oper} (n:Nat) (hm:P.follows .mixedOrders=true) (hB:Region.lexTailB .any l.toArray n=true)
  (h:wpStill P l.toArray w.drew (fun a'=>wpList P l.toArray Q (l.drop n) a' w.drew) (l.take n) a):(Code.region id l.toArray true).wp P Q a w:=
 wp_region_still_tail n hm hB h
theorem Of_any (v:Int) (w:World) :
  Calls Tryd.prog 83 #[.int .u64 v] w fun e w'=>e=.returned (.agg #[.int .u64 v,.int .u64 0,.int .u64 0,.int .u64 0])∧Below w.heap.size w w':=by
 go_enter Tryd.func83,Tryd.ntmps83
 go_wp2
 exact bodyPost_ret (v:=.agg #[.int .u64 v,.int .u64 0,.int .u64 0,.int .u64 0]) (by simp [results,Tryd.results83,go_sem]) rfl ⟨rfl,(Below.refl _ _).alloc (Nat.le_refl _) _⟩

theorem Len64_any (x:Nat) (hx:x < 18446744073709551616) (w:World) :
  Calls Tryd.prog 90 #[.int .u64 (x:Int)] w fun e w'=>e=.returned (.int .i64 (bl x:Nat))∧w=w':=by
 refine (Tryd.bits_Len64 (x:Int) w z0b z0b).mono ?_
 rintro e w' ⟨rfl,rfl⟩
 rw [show ((x:Int)).toNat=x from by omega,bitLen_eq x hx]
 exact ⟨rfl,rfl⟩

theorem ne0t {a:Nat} (h:a≠0):(((a:Nat):Int) != 0)=true:=by simp;omega
theorem ne0f {a:Nat} (h:a=0):(((a:Nat):Int) != 0)=false:=by simp;omega
theorem bl64 {a:Nat} (h:a < 18446744073709551616):bl a≤64:=(bl_le_iff a 64).2 h

theorem Len_any (a0 a1 a2 a3:Nat) (h0:a0 < 18446744073709551616) (h1:a1 < 18446744073709551616) (h2:a2 < 18446744073709551616) (h3:a3 < 18446744073709551616) (w:World) :
  Calls Tryd.prog 85 #[.agg #[.int .u64 a0,.int .u64 a1,.int .u64 a2,.int .u64 a3]] w fun e w'=>e=.returned (.int .i64 (len4 a0 a1 a2 a3:Nat))∧Below w.heap.size w w':=by
 have b0:=bl64 h0
 have b1:=bl64 h1
 have b2:=bl64 h2
 have b3:=bl64 h3
 by_cases c3:a3=0
 ·by_cases c2:a2=0
  ·by_cases c1:a1=0
   ·by_cases c0:a0=0
    ·have t3:=ne0f c3;have t2:=ne0f c2;have t1:=ne0f c1;have t0:=ne0f c0
     have e:len4 a0 a1 a2 a3=0:=by simp [len4,c3,c2,c1,c0,bl_zero]
     clear c0 c1 c2 c3
     go_enter Tryd.func85,Tryd.ntmps85
     go_wp2_with fail
     go_rounds 5
     go_ret
     exact ⟨by simp [e],(Below.refl _ _).alloc (Nat.le_refl _) _⟩
    ·have t3:=ne0f c3;have t2:=ne0f c2;have t1:=ne0f c1;have t0:=ne0t c0
     have E:=Lib.hid (show len4 a0 a1 a2 a3=bl a0 by simp [len4,c3,c2,c1])
     clear c0 c1 c2 c3
     go_enter Tryd.func85,Tryd.ntmps85
     go_wp2_with fail
     refine wp_loop_rounds 5 ?_
     iterate 4 (rw [rounds_succ];go_wp2_with ((go_at_call 90;refine (Len64_any _ (by assumption) _).mono ?_;rintro e w' ⟨rfl,rfl⟩)))
     go_ret
     exact ⟨by simp [E.out],(Below.refl _ _).alloc (Nat.le_refl _) _⟩
   ·have t3:=ne0f c3;have t2:=ne0f c2;have t1:=ne0t c1
    have E:=Lib.hid (show len4 a0 a1 a2 a3=64+bl a1 by simp [len4,c3,c2,c1])
    clear c1 c2 c3
    go_enter Tryd.func85,Tryd.ntmps85
    go_wp2_with fail
    refine wp_loop_rounds 5 ?_
    iterate 3 (rw [rounds_succ];go_wp2_with ((go_at_call 90;refine (Len64_any _ (by assumption) _).mono ?_;rintro e w' ⟨rfl,rfl⟩)))
    go_ret
    exact ⟨by simp [E.out],(Below.refl _ _).alloc (Nat.le_refl _) _⟩
  ·have t3:=ne0f c3;have t2:=ne0t c2
   have E:=Lib.hid (show len4 a0 a1 a2 a3=128+bl a2 by simp [len4,c3,c2])
   clear c2 c3
   go_enter Tryd.func85,Tryd.ntmps85
   go_wp2_with fail
   refine wp_loop_rounds 5 ?_
   iterate 2 (rw [rounds_succ];go_wp2_with ((go_at_call 90;refine (Len64_any _ (by assumption) _).mono ?_;rintro e w' ⟨rfl,rfl⟩)))
   go_ret
   exact ⟨by simp [E.out],(Below.refl _ _).alloc (Nat.le_refl _) _⟩
 ·have t3:=ne0t c3
  have E:=Lib.hid (show len4 a0 a1 a2 a3=192+bl a3 by simp [len4,c3])
  clear c3
  go_enter Tryd.func85,Tryd.ntmps85
  go_wp2_with fail
  refine wp_loop_rounds 5 ?_
  iterate 1 (rw [rounds_succ];go_wp2_with ((go_at_call 90;refine (Len64_any _ (by assumption) _).mono ?_;rintro e w' ⟨rfl,rfl⟩)))
  go_ret
  exact ⟨by simp [E.out],(Below.refl _ _).alloc (Nat.le_refl _) _⟩
@[go_sem] theorem run_equalIn_nat (d : Nat) (a0 a1 a2 a3 b0 b1 b2 b3 : Int) (w : World) :
  (Op.equalIn (d+2) 29 (.agg #[.int .u64 a0,.int .u64 a1,.int .u64 a2,.int .u64 a3]) (.agg #[.int .u64 b0,.int .u64 b1,.int .u64 b2,.int .u64 b3])).run Tryd.prog w=.ok (a0 == b0 && a1 == b1 && a2 == b2 && a3 == b3) w:=by
 have h24:=@Tryd.underlying29
 have h22:=@Tryd.underlying22
 unfold Op.equalIn
 simp only [Sem.run_bind,run_underlying h24,Result.andThen_ok]
 simp [go_sem,Std.Legacy.Range.forIn_eq_forIn_range',List.range']
 by_cases e0:a0=b0 <;> by_cases e1:a1=b1 <;> by_cases e2:a2=b2 <;> by_cases e3:a3=b3 <;> simp [e0,e1,e2,e3]

theorem Of_eq (v:Int) (w:World) :
  Calls Tryd.prog 83 #[.int .u64 v] w fun e w'=>e=.returned (.agg #[.int .u64 v,.int .u64 0,.int .u64 0,.int .u64 0])∧w.alloc (.cells #[.int .u64 v,.int .u64 0,.int .u64 0,.int .u64 0] 29)=w':=by
 go_enter Tryd.func83,Tryd.ntmps83
 go_wp2
 exact bodyPost_ret (v:=.agg #[.int .u64 v,.int .u64 0,.int .u64 0,.int .u64 0]) (by simp [results,Tryd.results83,go_sem]) rfl ⟨rfl,rfl⟩

def Tab (w:World):Prop:=TabAt 2 Lib.deBruijn64tab w
theorem Tab.lt {w:World} (h:Tab w):2 < w.heap.size:=
 World.block_lt_of_cell? w ⟨2,0,none⟩ (h 0 z0g)
theorem Tab.below {w w':World} (h:Tab w) (hb:Below w.heap.size w w'):Tab w':=fun j hj=>by
 rw [hb.cell (p:=⟨2,j,none⟩) h.lt]
 exact h j hj
theorem Tab.alloc {w:World} (h:Tab w) (o:Obj):Tab (w.alloc o):=h.below ((Below.refl _ _).alloc (Nat.le_refl _) o)
theorem Tab.drew {w:World} (h:Tab w):Tab w.drew:=h.below (Below.refl _ _).drew

theorem Tz64_any (x:Nat) (h0:0 < x) (hx:x < 18446744073709551616) (w:World) (hT:Tab w) :
  Calls Tryd.prog 84 #[.int .u64 (x:Int)] w fun e w'=>e=.returned (.int .i64 (tz x:Nat))∧w=w':=by
 refine (Tryd.bits_TrailingZeros64 x hx w (fun _=>hT)).mono ?_
 rintro e w' ⟨rfl,rfl⟩
 rw [ctz64_eq h0 hx]
 exact ⟨rfl,rfl⟩
theorem tz64 {x:Nat} (h:x < 18446744073709551616):tz x≤64:=by
 by_cases h0:x=0
 ·subst h0;simp [tz_zero]
 ·have:=tz_lt_bl (n:=x) z0b
  have:=bl64 h
  omega

def trail4 (a0 a1 a2 a3:Nat):Nat:=if a0≠0 then tz a0 else if a1≠0 then 64+tz a1 else if a2≠0 then 128+tz a2 else if a3≠0 then 192+tz a3 else 256
theorem Trail_0 (a0 a1 a2 a3:Nat) (h0:a0 < 18446744073709551616) (_h1:a1 < 18446744073709551616) (_h2:a2 < 18446744073709551616) (_h3:a3 < 18446744073709551616) (w:World) (hT:Tab w)  (c0:a0≠0) :
  Calls Tryd.prog 86 #[.agg #[.int .u64 a0,.int .u64 a1,.int .u64 a2,.int .u64 a3]] w fun e w'=>e=.returned (.int .i64 ((tz a0:Nat):Int))∧Below w.heap.size w w':=by
 have t0:=ne0t c0
 have p0:0 < a0:=by omega
 have b0:=tz64 h0
 have hT1:=hT.alloc
 have i0:∀ w,(Instr.index 29 (.agg #[.int .u64 a0,.int .u64 a1,.int .u64 a2,.int .u64 a3]) (.int .i64 0)).run Tryd.prog w=.ok (.int .u64 a0) w:=fun _=>by kernel_rfl
 have i1:∀ w,(Instr.index 29 (.agg #[.int .u64 a0,.int .u64 a1,.int .u64 a2,.int .u64 a3]) (.int .i64 1)).run Tryd.prog w=.ok (.int .u64 a1) w:=fun _=>by kernel_rfl
 have i2:∀ w,(Instr.index 29 (.agg #[.int .u64 a0,.int .u64 a1,.int .u64 a2,.int .u64 a3]) (.int .i64 2)).run Tryd.prog w=.ok (.int .u64 a2) w:=fun _=>by kernel_rfl
 have i3:∀ w,(Instr.index 29 (.agg #[.int .u64 a0,.int .u64 a1,.int .u64 a2,.int .u64 a3]) (.int .i64 3)).run Tryd.prog w=.ok (.int .u64 a3) w:=fun _=>by kernel_rfl
 clear c0
 go_enter Tryd.func86,Tryd.ntmps86
 go_wp2_with fail
 refine wp_loop_rounds 5 ?_
 iterate 1 (rw [rounds_succ];go_wp2_with ((go_at_call 84;refine (Tz64_any _ (by assumption) (by assumption) _ (hT1 _)).mono ?_;rintro e w' ⟨rfl,rfl⟩)))
 go_ret
 exact ⟨by simp,zb1⟩
theorem Trail_1 (a0 a1 a2 a3:Nat) (_h0:a0 < 18446744073709551616) (h1:a1 < 18446744073709551616) (_h2:a2 < 18446744073709551616) (_h3:a3 < 18446744073709551616) (w:World) (hT:Tab w) (c0:a0=0) (c1:a1≠0) :
  Calls Tryd.prog 86 #[.agg #[.int .u64 a0,.int .u64 a1,.int .u64 a2,.int .u64 a3]] w fun e w'=>e=.returned (.int .i64 ((64+tz a1:Nat):Int))∧Below w.heap.size w w':=by
 have t0:=ne0f c0
 have t1:=ne0t c1
 have p1:0 < a1:=by omega
 have b1:=tz64 h1
 have hT1:=hT.alloc
 have i0:∀ w,(Instr.index 29 (.agg #[.int .u64 a0,.int .u64 a1,.int .u64 a2,.int .u64 a3]) (.int .i64 0)).run Tryd.prog w=.ok (.int .u64 a0) w:=fun _=>by kernel_rfl
 have i1:∀ w,(Instr.index 29 (.agg #[.int .u64 a0,.int .u64 a1,.int .u64 a2,.int .u64 a3]) (.int .i64 1)).run Tryd.prog w=.ok (.int .u64 a1) w:=fun _=>by kernel_rfl
 have i2:∀ w,(Instr.index 29 (.agg #[.int .u64 a0,.int .u64 a1,.int .u64 a2,.int .u64 a3]) (.int .i64 2)).run Tryd.prog w=.ok (.int .u64 a2) w:=fun _=>by kernel_rfl
 have i3:∀ w,(Instr.index 29 (.agg #[.int .u64 a0,.int .u64 a1,.int .u64 a2,.int .u64 a3]) (.int .i64 3)).run Tryd.prog w=.ok (.int .u64 a3) w:=fun _=>by kernel_rfl
 clear c0 c1
 go_enter Tryd.func86,Tryd.ntmps86
 go_wp2_with fail
 refine wp_loop_rounds 5 ?_
 iterate 2 (rw [rounds_succ];go_wp2_with ((go_at_call 84;refine (Tz64_any _ (by assumption) (by assumption) _ (hT1 _)).mono ?_;rintro e w' ⟨rfl,rfl⟩)))
 go_ret
 exact ⟨by simp,zb1⟩
theorem Trail_2 (a0 a1 a2 a3:Nat) (_h0:a0 < 18446744073709551616) (_h1:a1 < 18446744073709551616) (h2:a2 < 18446744073709551616) (_h3:a3 < 18446744073709551616) (w:World) (hT:Tab w) (c0:a0=0) (c1:a1=0) (c2:a2≠0) :
  Calls Tryd.prog 86 #[.agg #[.int .u64 a0,.int .u64 a1,.int .u64 a2,.int .u64 a3]] w fun e w'=>e=.returned (.int .i64 ((128+tz a2:Nat):Int))∧Below w.heap.size w w':=by
 have t0:=ne0f c0
 have t1:=ne0f c1
 have t2:=ne0t c2
 have p2:0 < a2:=by omega
 have b2:=tz64 h2
 have hT1:=hT.alloc
 have i0:∀ w,(Instr.index 29 (.agg #[.int .u64 a0,.int .u64 a1,.int .u64 a2,.int .u64 a3]) (.int .i64 0)).run Tryd.prog w=.ok (.int .u64 a0) w:=fun _=>by kernel_rfl
 have i1:∀ w,(Instr.index 29 (.agg #[.int .u64 a0,.int .u64 a1,.int .u64 a2,.int .u64 a3]) (.int .i64 1)).run Tryd.prog w=.ok (.int .u64 a1) w:=fun _=>by kernel_rfl
 have i2:∀ w,(Instr.index 29 (.agg #[.int .u64 a0,.int .u64 a1,.int .u64 a2,.int .u64 a3]) (.int .i64 2)).run Tryd.prog w=.ok (.int .u64 a2) w:=fun _=>by kernel_rfl
 have i3:∀ w,(Instr.index 29 (.agg #[.int .u64 a0,.int .u64 a1,.int .u64 a2,.int .u64 a3]) (.int .i64 3)).run Tryd.prog w=.ok (.int .u64 a3) w:=fun _=>by kernel_rfl
 clear c0 c1 c2
 go_enter Tryd.func86,Tryd.ntmps86
 go_wp2_with fail
 refine wp_loop_rounds 5 ?_
 iterate 3 (rw [rounds_succ];go_wp2_with ((go_at_call 84;refine (Tz64_any _ (by assumption) (by assumption) _ (hT1 _)).mono ?_;rintro e w' ⟨rfl,rfl⟩)))
 go_ret
 exact ⟨by simp,zb1⟩
theorem Trail_3 (a0 a1 a2 a3:Nat) (_h0:a0 < 18446744073709551616) (_h1:a1 < 18446744073709551616) (_h2:a2 < 18446744073709551616) (h3:a3 < 18446744073709551616) (w:World) (hT:Tab w) (c0:a0=0) (c1:a1=0) (c2:a2=0) (c3:a3≠0) :
  Calls Tryd.prog 86 #[.agg #[.int .u64 a0,.int .u64 a1,.int .u64 a2,.int .u64 a3]] w fun e w'=>e=.returned (.int .i64 ((192+tz a3:Nat):Int))∧Below w.heap.size w w':=by
 have t0:=ne0f c0
 have t1:=ne0f c1
 have t2:=ne0f c2
 have t3:=ne0t c3
 have p3:0 < a3:=by omega
 have b3:=tz64 h3
 have hT1:=hT.alloc
 have i0:∀ w,(Instr.index 29 (.agg #[.int .u64 a0,.int .u64 a1,.int .u64 a2,.int .u64 a3]) (.int .i64 0)).run Tryd.prog w=.ok (.int .u64 a0) w:=fun _=>by kernel_rfl
 have i1:∀ w,(Instr.index 29 (.agg #[.int .u64 a0,.int .u64 a1,.int .u64 a2,.int .u64 a3]) (.int .i64 1)).run Tryd.prog w=.ok (.int .u64 a1) w:=fun _=>by kernel_rfl
 have i2:∀ w,(Instr.index 29 (.agg #[.int .u64 a0,.int .u64 a1,.int .u64 a2,.int .u64 a3]) (.int .i64 2)).run Tryd.prog w=.ok (.int .u64 a2) w:=fun _=>by kernel_rfl
 have i3:∀ w,(Instr.index 29 (.agg #[.int .u64 a0,.int .u64 a1,.int .u64 a2,.int .u64 a3]) (.int .i64 3)).run Tryd.prog w=.ok (.int .u64 a3) w:=fun _=>by kernel_rfl
 clear c0 c1 c2 c3
 go_enter Tryd.func86,Tryd.ntmps86
 go_wp2_with fail
 refine wp_loop_rounds 5 ?_
 iterate 4 (rw [rounds_succ];go_wp2_with ((go_at_call 84;refine (Tz64_any _ (by assumption) (by assumption) _ (hT1 _)).mono ?_;rintro e w' ⟨rfl,rfl⟩)))
 go_ret
 exact ⟨by simp,zb1⟩
theorem Trail_4 (a0 a1 a2 a3:Nat) (_h0:a0 < 18446744073709551616) (_h1:a1 < 18446744073709551616) (_h2:a2 < 18446744073709551616) (_h3:a3 < 18446744073709551616) (w:World) (hT:Tab w) (c0:a0=0) (c1:a1=0) (c2:a2=0) (c3:a3=0) :
  Calls Tryd.prog 86 #[.agg #[.int .u64 a0,.int .u64 a1,.int .u64 a2,.int .u64 a3]] w fun e w'=>e=.returned (.int .i64 ((256:Nat):Int))∧Below w.heap.size w w':=by
 have t0:=ne0f c0
 have t1:=ne0f c1
 have t2:=ne0f c2
 have t3:=ne0f c3
 have hT1:=hT.alloc
 have i0:∀ w,(Instr.index 29 (.agg #[.int .u64 a0,.int .u64 a1,.int .u64 a2,.int .u64 a3]) (.int .i64 0)).run Tryd.prog w=.ok (.int .u64 a0) w:=fun _=>by kernel_rfl
 have i1:∀ w,(Instr.index 29 (.agg #[.int .u64 a0,.int .u64 a1,.int .u64 a2,.int .u64 a3]) (.int .i64 1)).run Tryd.prog w=.ok (.int .u64 a1) w:=fun _=>by kernel_rfl
 have i2:∀ w,(Instr.index 29 (.agg #[.int .u64 a0,.int .u64 a1,.int .u64 a2,.int .u64 a3]) (.int .i64 2)).run Tryd.prog w=.ok (.int .u64 a2) w:=fun _=>by kernel_rfl
 have i3:∀ w,(Instr.index 29 (.agg #[.int .u64 a0,.int .u64 a1,.int .u64 a2,.int .u64 a3]) (.int .i64 3)).run Tryd.prog w=.ok (.int .u64 a3) w:=fun _=>by kernel_rfl
 clear c0 c1 c2 c3
 go_enter Tryd.func86,Tryd.ntmps86
 go_wp2_with fail
 go_rounds 5
 go_ret
 exact ⟨by simp,zb1⟩
theorem Trail_any (a0 a1 a2 a3:Nat) (h0:a0 < 18446744073709551616) (h1:a1 < 18446744073709551616) (h2:a2 < 18446744073709551616) (h3:a3 < 18446744073709551616) (w:World) (hT:Tab w) :
  Calls Tryd.prog 86 #[.agg #[.int .u64 a0,.int .u64 a1,.int .u64 a2,.int .u64 a3]] w fun e w'=>e=.returned (.int .i64 (trail4 a0 a1 a2 a3:Nat))∧Below w.heap.size w w':=by
 unfold trail4
 split
 ·exact Trail_0 a0 a1 a2 a3 h0 h1 h2 h3 w hT (by assumption)
 ·split
  ·exact Trail_1 a0 a1 a2 a3 h0 h1 h2 h3 w hT z0b (by assumption)
  ·split
   ·exact Trail_2 a0 a1 a2 a3 h0 h1 h2 h3 w hT z0b z0b (by assumption)
   ·split
    ·exact Trail_3 a0 a1 a2 a3 h0 h1 h2 h3 w hT z0b z0b z0b (by assumption)
    ·exact Trail_4 a0 a1 a2 a3 h0 h1 h2 h3 w hT z0b z0b z0b z0b
theorem below_alloc {a w:World} (h:Below a.heap.size a w) (o:Obj):Below a.heap.size a (w.alloc o):=h.alloc h.size o
theorem below_trans {a b c:World} (h:Below a.heap.size a b) (k:Below b.heap.size b c):Below a.heap.size a c:=h.trans (k.mono h.size)
inductive VT where
 | nil
 | mk (kind:Int) (neg:Bool) (V bits:Nat) (text:ByteArray) (aL:Option Addr) (nL cL:Nat) (kids:Nat→VT) (aK:Option Addr) (nK cK:Nat) (keys:Nat→ByteArray)
instance:Inhabited VT:=⟨.nil⟩
def VT.cells:VT→List Value
 | .nil=>[]
 | .mk kind neg V bits text aL nL cL _ aK nK cK _=>[.int .i64 kind,.bool neg,.int .u64 (lm V 0:Nat),.int .u64 (lm V 1:Nat),.int .u64 (lm V 2:Nat),.int .u64 (lm V 3:Nat),.int .u64 (bits:Nat),.string text,.slice aL nL cL,.slice aK nK cK]
def VT.agg (T:VT):Value:=.agg T.cells.toArray
structure VOwn (kind:Int) (V bits:Nat) (text:ByteArray) (nL cL nK cK:Nat):Prop where
 k0 : -9223372036854775808≤kind
 k1:kind < 9223372036854775808
 v:V < 2 ^ 256
 b:bits < 18446744073709551616
 t:text.size≤maxLen
 l:nL≤cL
 lc:cL≤maxLen
 n:nK≤cK
 nc:cK≤maxLen
def VT.In (w:World):VT→Prop
 | .nil=>False
 | .mk kind _ V bits text aL nL cL kids aK nK cK keys=>VOwn kind V bits text nL cL nK cK ∧
   (nL=0∨∃ b off,aL=some ⟨b,off,none⟩∧b < w.heap.size∧∀ i,i < nL→∀ j,j < 10→w.cell? ⟨b,off+i * 10+j,none⟩=(kids i).cells[j]?) ∧
   (∀ i,i < nL→(kids i).In w) ∧
   (nK=0∨∃ b off,aK=some ⟨b,off,none⟩∧b < w.heap.size∧∀ i,i < nK→w.cell? ⟨b,off+i,none⟩=some (.string (keys i))∧(keys i).size≤maxLen)
theorem VT.In.below {w w':World} (hb:Below w.heap.size w w'):∀ (T:VT),T.In w→T.In w':=by
 intro T
 induction T with
 | nil=>exact id
 | mk kind neg V bits text aL nL cL kids aK nK cK keys ih=>
  rintro ⟨o,l,k,n⟩
  refine ⟨o,?_,fun i hi=>ih i (k i hi),?_⟩
  ·rcases l with l|⟨b,off,e,hl,hc⟩
   ·exact .inl l
   ·exact .inr ⟨b,off,e,Nat.lt_of_lt_of_le hl hb.size,fun i hi j hj=>by rw [hb.cell (p:=⟨b,off+i * 10+j,none⟩) hl];exact hc i hi j hj⟩
  ·rcases n with n|⟨b,off,e,hl,hc⟩
   ·exact .inl n
   ·exact .inr ⟨b,off,e,Nat.lt_of_lt_of_le hl hb.size,fun i hi=>⟨by rw [hb.cell (p:=⟨b,off+i,none⟩) hl];exact (hc i hi).1,(hc i hi).2⟩⟩
def maxN (f:Nat→Nat):Nat→Nat
 | 0=>0
 | n+1=>max (maxN f n) (f n)
def sumN (f:Nat→Nat):Nat→Nat
 | 0=>0
 | n+1=>sumN f n+f n
def VT.depth:VT→Nat
 | .nil=>0
 | .mk _ _ _ _ _ _ nL _ kids _ _ _ _=>maxN (fun i=>(kids i).depth) nL+1
def VT.nodes:VT→Nat
 | .nil=>0
 | .mk _ _ _ _ _ _ nL _ kids _ _ _ _=>sumN (fun i=>(kids i).nodes) nL+1
theorem keep_cell {w1 w2:World} {p:Addr} {v:Value} (hb:Below w1.heap.size w1 w2) (h:w1.cell? p=some v):w2.cell? p=some v:=by
 rw [hb.cell (p:=p) (World.block_lt_of_cell? w1 _ h)]
 exact h
theorem kid_lit {w wr:World} {aL:Option Addr} {nL i:Nat} {kids:Nat→VT} (hL:nL=0∨∃ b off,aL=some ⟨b,off,none⟩∧b < w.heap.size∧∀ i,i < nL→∀ j,j < 10→w.cell? ⟨b,off+i * 10+j,none⟩=(kids i).cells[j]?)
  (hK:∀ i,i < nL→(kids i).In w) (hi:i < nL) (hB:Below w.heap.size w wr) :
  ∃ (b off:Nat) (kind:Int) (neg:Bool) (V bits:Nat) (text:ByteArray) (aL':Option Addr) (nL' cL':Nat) (kids':Nat→VT) (aK:Option Addr) (nK cK:Nat) (keys:Nat→ByteArray),
   aL=some ⟨b,off,none⟩∧b < w.heap.size∧kids i=.mk kind neg V bits text aL' nL' cL' kids' aK nK cK keys ∧
   (wr.cell? ⟨b,off+i * 10,none⟩=some (.int .i64 kind)∧wr.cell? ⟨b,off+i * 10+1,none⟩=some (.bool neg)∧wr.cell? ⟨b,off+i * 10+2,none⟩=some (.int .u64 (lm V 0:Nat)) ∧
   wr.cell? ⟨b,off+i * 10+3,none⟩=some (.int .u64 (lm V 1:Nat))∧wr.cell? ⟨b,off+i * 10+4,none⟩=some (.int .u64 (lm V 2:Nat))∧wr.cell? ⟨b,off+i * 10+5,none⟩=some (.int .u64 (lm V 3:Nat)) ∧
   wr.cell? ⟨b,off+i * 10+6,none⟩=some (.int .u64 (bits:Nat))∧wr.cell? ⟨b,off+i * 10+7,none⟩=some (.string text)∧wr.cell? ⟨b,off+i * 10+8,none⟩=some (.slice aL' nL' cL') ∧
   wr.cell? ⟨b,off+i * 10+9,none⟩=some (.slice aK nK cK))∧(kids i).In wr:=by
 obtain ⟨b,off,rfl,hb,hc⟩:∃ b off,aL=some ⟨b,off,none⟩∧b < w.heap.size∧∀ i,i < nL→∀ j,j < 10→w.cell? ⟨b,off+i * 10+j,none⟩=(kids i).cells[j]? := by
  rcases hL with h|h
  ·omega
  ·exact h
 have hk:=hK i hi
 have hk2:=VT.In.below hB _ hk
 have hc:=hc i hi
 generalize kids i=T at hk hk2 hc
 cases T with
 | nil=>exact hk.elim
 | mk kind neg V bits text aL' nL' cL' kids' aK nK cK keys=>
  have hw:∀ j,j < 10→wr.cell? ⟨b,off+i * 10+j,none⟩=(VT.cells (.mk kind neg V bits text aL' nL' cL' kids' aK nK cK keys))[j]? := fun j hj=>by
   rw [hB.cell (p:=⟨b,off+i * 10+j,none⟩) hb]
   exact hc j hj
  exact ⟨b,off,kind,neg,V,bits,text,aL',nL',cL',kids',aK,nK,cK,keys,rfl,hb,rfl,⟨hw 0 z0b,hw 1 z0b,hw 2 z0b,hw 3 z0b,hw 4 z0b,hw 5 z0b,hw 6 z0b,hw 7 z0b,hw 8 z0b,hw 9 z0b⟩,hk2⟩
theorem key_lit {w wr:World} {aK:Option Addr} {nK i:Nat} {keys:Nat→ByteArray} (hK:nK=0∨∃ b off,aK=some ⟨b,off,none⟩∧b < w.heap.size∧∀ i,i < nK→w.cell? ⟨b,off+i,none⟩=some (.string (keys i))∧(keys i).size≤maxLen)
  (hi:i < nK) (hB:Below w.heap.size w wr):∃ b off:Nat,aK=some ⟨b,off,none⟩∧b < w.heap.size∧wr.cell? ⟨b,off+i,none⟩=some (.string (keys i))∧(keys i).size≤maxLen:=by
 rcases hK with h|⟨b,off,rfl,hb,hc⟩
 ·omega
 ·exact ⟨b,off,rfl,hb,by rw [hB.cell (p:=⟨b,off+i,none⟩) hb];exact (hc i hi).1,(hc i hi).2⟩
theorem sumN_le {f : Nat → Nat} {n i : Nat} (hi : i ≤ n) : sumN f i ≤ sumN f n := by
  induction n with
  | zero => have : i = 0 := by omega
            subst this; exact Nat.le_refl _
  | succ n ih =>
    by_cases h : i ≤ n
    · exact Nat.le_trans (ih h) (Nat.le_add_right _ _)
    · have : i = n + 1 := by omega
      subst this
      exact Nat.le_refl _
theorem sumN_one {f:Nat→Nat} {n i:Nat} (hi:i < n):f i≤sumN f n:=
 Nat.le_trans (Nat.le_add_left _ _) (sumN_le (f:=f) (show i+1≤n from hi))
theorem VT.depth_nodes:∀ T:VT,T.depth≤T.nodes:=by
 intro T
 induction T with
 | nil=>exact Nat.le_refl _
 | mk kind neg V bits text aL nL cL kids aK nK cK keys ih=>
  simp only [VT.depth,VT.nodes]
  have:∀ n,maxN (fun i=>(kids i).depth) n≤sumN (fun i=>(kids i).nodes) n:=by
   intro n
   induction n with
   | zero=>exact Nat.le_refl _
   | succ n ih2=>
    simp only [maxN,sumN]
    have:=ih n
    omega
  have:=this nL
  omega
theorem VT.nodes_kid {kind:Int} {neg:Bool} {V bits:Nat} {text:ByteArray} {aL:Option Addr} {nL cL:Nat} {kids:Nat→VT} {aK:Option Addr} {nK cK:Nat} {keys:Nat→ByteArray} {M i:Nat}
  (h:(VT.mk kind neg V bits text aL nL cL kids aK nK cK keys).nodes < M) (hi:i < nL):(kids i).nodes < M:=by
 have:=sumN_one (f:=fun i=>(kids i).nodes) hi
 simp only [VT.nodes] at h
 omega
theorem VT.nodes_sum {kind:Int} {neg:Bool} {V bits:Nat} {text:ByteArray} {aL:Option Addr} {nL cL:Nat} {kids:Nat→VT} {aK:Option Addr} {nK cK:Nat} {keys:Nat→ByteArray} {M k:Nat}
  (h:(VT.mk kind neg V bits text aL nL cL kids aK nK cK keys).nodes < M) (hk:k≤nL):sumN (fun i=>(kids i).nodes) k < M:=by
 have:=sumN_le (f:=fun i=>(kids i).nodes) hk
 simp only [VT.nodes] at h
 omega
theorem maxN_sumN {f g:Nat→Nat} (h:∀ i,f i≤g i):∀ n,maxN f n≤sumN g n:=by
 intro n
 induction n with
 | zero=>exact Nat.le_refl _
 | succ n ih=>
  simp only [maxN,sumN]
  have:=ih
  have:=h n
  omega
def anyN (p:Nat→Bool):Nat→Bool
 | 0=>false
 | k+1=>anyN p k || p k
theorem anyN_of {p:Nat→Bool} {k n:Nat} (h:p k=true) (hk:k < n):anyN p n=true:=by
 induction n with
 | zero=>omega
 | succ n ih=>
  simp only [anyN,Bool.or_eq_true]
  by_cases c:k < n
  ·exact .inl (ih c)
  ·have:k=n:=by omega
   subst this
   exact .inr h
theorem anyN_no {p:Nat→Bool} {n k:Nat} (h:anyN p n=false) (hk:k < n):p k=false:=by
 cases hp:p k
 ·rfl
 ·rw [anyN_of hp hk] at h;cases h
def fewS (f:Nat→Nat):Nat→Nat
 | 0=>1
 | k+1=>if fewS f k < 1000 then fewS f k+f k else fewS f k
def VT.few:VT→Nat→Nat
 | .nil,_=>1000
 | .mk _ _ _ _ text _ nL _ kids _ nK _ keys,d=>if d=0∨300 < text.size∨400 < nK∨400 < nL then 1000 else if anyN (fun i=>decide (300 < (keys i).size)) nK=true then 1000 else fewS (fun i=>(kids i).few (d - 1)) nL
end Go.Proofs.YtfondldmmcmloaaDoor
