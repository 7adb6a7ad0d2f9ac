/- DM6. -/
import Derived.Deep.RegionLaw
import Derived.Test.YtfondldmmcmloaaGreatDoorPb2
set_option maxRecDepth 1000000
set_option maxHeartbeats 8000000
namespace Go.Proofs.YtfondldmmcmloaaGreatDoor
open Go Go.RowKit
theorem z17zk1 {p:Prop} (h:p:=by
 repeat any_goals (first|(go_at_call 125;refine (trim_any _ _ _ _ DH.out).mono ?_;rintro e w' ⟨⟨v,rfl,hv⟩,rfl⟩)|go_skip|go_guarded|go_step|go_upon|(dsimp only []))
 go_ret
 exact ⟨v,rfl,hv,hbel⟩):p:=h
theorem z17zk2 {p:Prop} (h:p:=by
 repeat any_goals (first|go_skip|go_guarded|go_step|go_upon|(simp only [];done))
 go_ret
 simp):p:=h
theorem z17zk3 {p:Prop} (h:p:=by
 have hnx2:=hnx hjl
 go_quiet ((go_at_call 135;exact Calls.quiet_of_same (GQ.out _)))
 repeat any_goals (first|go_skip|go_guarded|go_step|go_upon|(simp only [];done))
 go_roundw
 case rel=>exact FH.out _ hjl
 case measure=>simp [intOf];omega):p:=h
end Go.Proofs.YtfondldmmcmloaaGreatDoor
namespace Go.Proofs.YtfondldmmcmloaaGreatDoor
open Go.RowKit
def dig (V j:Nat):Nat:=V / 2 ^ (32 * j) % 4294967296
def dl (V:Nat):Nat:=(bl V+31) / 32
theorem dig_lt (V j:Nat):dig V j < 4294967296:=Nat.mod_lt _ z0e
theorem dl_lt (V:Nat):V < 2 ^ (32 * dl V):=by
 rw [← bl_le_iff]
 unfold dl
 omega
theorem dl_le_iff (V n:Nat):dl V≤n↔V < 2 ^ (32 * n):=by
 rw [← bl_le_iff]
 unfold dl
 omega
theorem dig_zero {V n:Nat} (h:V < 2 ^ (32 * n)) {j:Nat} (hj:n≤j):dig V j=0:=by
 unfold dig
 rw [Nat.div_eq_of_lt (Nat.lt_of_lt_of_le h (Nat.pow_le_pow_right z0e z0c))]
theorem lt_of_dig_zero {V n:Nat} (h:V < 2 ^ (32 * (n+1))) (h0:dig V n=0):V < 2 ^ (32 * n):=by
 unfold dig at h0
 have h4:V / 2 ^ (32 * n) < 4294967296:=by
  rw [Nat.div_lt_iff_lt_mul (Nat.two_pow_pos _),show (4294967296:Nat)=2 ^ 32 from by decide,← Nat.pow_add]
  exact Nat.lt_of_lt_of_le h (Nat.pow_le_pow_right z0e z0c)
 rw [Nat.mod_eq_of_lt h4] at h0
 rcases Nat.div_eq_zero_iff.1 h0 with h1|h1
 ·have:=Nat.two_pow_pos (32 * n);omega
 ·exact h1
theorem dl_eq {V n:Nat} (h:V < 2 ^ (32 * (n+1))) (h0:dig V n≠0):dl V=n+1:=by
 have h1:=(dl_le_iff V (n+1)).2 h
 have h2:¬ dl V≤n:=by
  intro h3
  exact h0 (dig_zero ((dl_le_iff V n).1 h3) (Nat.le_refl _))
 omega
theorem dig_bit (V i:Nat):dig V (i / 32) / 2 ^ (i % 32) % 2=V / 2 ^ i % 2:=by
 unfold dig
 have h1:i=32 * (i / 32)+i % 32:=by omega
 generalize i / 32=q at *
 have hr:i % 32 < 32:=Nat.mod_lt _ z0e
 generalize i % 32=r at *
 subst h1
 rw [Nat.pow_add,← Nat.div_div_eq_div_mul]
 generalize V / 2 ^ (32 * q)=W
 have e:(4294967296:Nat)=2 ^ r * 2 ^ (32 - r):=by rw [← Nat.pow_add,show r+(32 - r)=32 from by omega]
 rw [e,Nat.mod_mul_right_div_self]
 have e2:2 ^ (32 - r)=2 * 2 ^ (31 - r):=by rw [show 32 - r=(31 - r)+1 from by omega,Nat.pow_succ];omega
 rw [e2,Nat.mod_mul_right_mod]
theorem bit_of_bl {V:Nat} (h:0 < V):V / 2 ^ (bl V - 1) % 2=1:=by
 have h1:=two_pow_bl_le h
 have h2:=lt_two_pow_bl V
 have hb:=bl_pos h
 have h3:1≤V / 2 ^ (bl V - 1):=by
  rw [Nat.le_div_iff_mul_le (Nat.two_pow_pos _),Nat.one_mul]
  exact h1
 have h4:V / 2 ^ (bl V - 1) < 2:=by
  rw [Nat.div_lt_iff_lt_mul (Nat.two_pow_pos _)]
  have:2 ^ bl V=2 * 2 ^ (bl V - 1):=by rw [← Nat.pow_succ',show (bl V - 1).succ=bl V from by omega]
  omega
 omega
theorem bit_zero_above {V k:Nat} (h:bl V≤k):V / 2 ^ k % 2=0:=by
 rw [Nat.div_eq_of_lt ((bl_le_iff V k).1 h)]
theorem bit_tz {V:Nat} (h:0 < V):V / 2 ^ tz V % 2=1:=odd_part_odd h
theorem bit_below_tz {V k:Nat} (h:0 < V) (hk:k < tz V):V / 2 ^ k % 2=0:=by
 have hd:2 ^ (k+1) ∣ V:=(dvd_iff_le_tz h (k+1)).2 hk
 obtain ⟨m,rfl⟩:=hd
 rw [Nat.pow_succ,Nat.mul_assoc,Nat.mul_div_cancel_left _ (Nat.two_pow_pos k)]
 omega
def DN (w:World) (v:Value) (n V:Nat):Prop:=
 V < 2 ^ (32 * n)∧n≤281474976∧∃ ao cap,v=.slice ao n cap∧n≤cap∧cap≤9223372036854775807∧(0 < n→∃ b,ao=some ⟨b,0,none⟩∧b < w.heap.size∧∀ j,j < n→w.cell? ⟨b,j,none⟩=some (.int .u32 (dig V j:Nat)))
def IsD (w:World) (v:Value) (V:Nat):Prop:=DN w v (dl V) V
theorem DN.below {w w':World} {v:Value} {n V:Nat} (h:DN w v n V) (hb:Below w.heap.size w w'):DN w' v n V:=by
 obtain ⟨h1,h0,ao,cap,h2,h3,h4,h5⟩:=h
 refine ⟨h1,h0,ao,cap,h2,h3,h4,fun hn=>?_⟩
 obtain ⟨b,rfl,hb1,hc⟩:=h5 hn
 refine ⟨b,rfl,Nat.lt_of_lt_of_le hb1 hb.size,fun j hj=>?_⟩
 rw [hb.cell (p:=⟨b,j,none⟩) hb1]
 exact hc j hj
theorem DN.alloc {w:World} {v:Value} {n V:Nat} (h:DN w v n V) (o:Obj):DN (w.alloc o) v n V:=h.below ((Below.refl _ _).alloc (Nat.le_refl _) o)
theorem DN.drew {w:World} {v:Value} {n V:Nat} (h:DN w v n V):DN w.drew v n V:=h.below (Below.refl _ _).drew
theorem Bit_neg (v:Value) (i:Int) (w:World) (hi:i < 0) :
  Calls Tryz.prog 126 #[v,.int .i64 i] w fun e w'=>e=.returned (.bool false)∧w=w':=by
 go_enter Tryz.func126,Tryz.ntmps126
 exact z17zk2
theorem Bit_above (ao:Option Addr) (n cap i q:Nat) (w:World) (hi:(i:Int) < 9223372036854775808) (_hn:n≤281474976) (eq:(i:Int) / 32=(q:Int)) (h:¬ q < n) :
  Calls Tryz.prog 126 #[.slice ao n cap,.int .i64 (i:Int)] w fun e w'=>e=.returned (.bool false)∧w=w':=by
 go_enter Tryz.func126,Tryz.ntmps126
 exact z17zk2
theorem Bit_in (b n cap i q r x y:Nat) (w:World) (hi:(i:Int) < 9223372036854775808) (hn:n≤281474976) (hq:q < n) (eq:(i:Int) / 32=(q:Int)) (hc:w.cell? ⟨b,q,none⟩=some (.int .u32 (x:Nat))) (er:(i:Int) % 32=(r:Int)) (ey:bits BinOp.and IntKind.u32 ((x:Int) / 2 ^ r) 1=(y:Int)) :
  Calls Tryz.prog 126 #[.slice (some ⟨b,0,none⟩) n cap,.int .i64 (i:Int)] w fun e w'=>e=.returned (.bool ((y:Int) == 1))∧w=w':=by
 go_enter Tryz.func126,Tryz.ntmps126
 exact z17zk2
def bitI (V:Nat) (i:Int):Bool:=decide (0≤i) && (V / 2 ^ i.toNat % 2 == 1)
theorem Bit_any (v:Value) (n V:Nat) (i:Int) (w:World) (h:DN w v n V) (h1 : -9223372036854775808≤i) (h2:i < 9223372036854775808) :
  Calls Tryz.prog 126 #[v,.int .i64 i] w fun e w'=>e=.returned (.bool (bitI V i))∧w=w':=by
 obtain ⟨hV,hn,ao,cap,rfl,hcap,_,hc⟩:=h
 by_cases h0:i < 0
 ·have e:bitI V i=false:=by unfold bitI;rw [decide_eq_false z0c];rfl
  rw [e]
  exact Bit_neg _ i w h0
 ·obtain ⟨k,rfl⟩:∃ k:Nat,i=k:=⟨i.toNat,by omega⟩
  have eq:(k:Int) / 32=((k / 32:Nat):Int):=by omega
  by_cases hq:k / 32 < n
  ·obtain ⟨b,rfl,_,hcell⟩:=hc z0c
   have er:(k:Int) % 32=((k % 32:Nat):Int):=by omega
   have hx:=dig_lt V (k / 32)
   have hb:dig V (k / 32) / 2 ^ (k % 32) < 4294967296:=Nat.lt_of_le_of_lt (Nat.div_le_self _ _) hx
   have ey:bits BinOp.and IntKind.u32 (((dig V (k / 32):Nat):Int) / 2 ^ (k % 32)) 1=((V / 2 ^ k % 2:Nat):Int):=by
    have e:=u32_and_nat (dig V (k / 32) / 2 ^ (k % 32)) 1 hb z0e
    rw [Nat.and_one_is_mod,dig_bit] at e
    rw [show (((dig V (k / 32):Nat):Int) / 2 ^ (k % 32))=((dig V (k / 32) / 2 ^ (k % 32):Nat):Int) from by simp]
    exact e
   have hh:=Bit_in b n cap k (k / 32) (k % 32) (dig V (k / 32)) (V / 2 ^ k % 2) w h2 hn hq eq (hcell _ hq) er ey
   have e:bitI V (k:Int)=(((V / 2 ^ k % 2:Nat):Int) == 1):=by
    unfold bitI
    rw [decide_eq_true z0c,Bool.true_and,show ((k:Int)).toNat=k from rfl]
    have h2:V / 2 ^ k % 2 < 2:=Nat.mod_lt _ z0e
    generalize V / 2 ^ k % 2=z at *
    rcases (show z=0∨z=1 by omega) with rfl|rfl <;> rfl
   rw [e]
   exact hh
  ·have e:bitI V (k:Int)=false:=by
    unfold bitI
    have hlt:V < 2 ^ k:=Nat.lt_of_lt_of_le hV (Nat.pow_le_pow_right z0e z0c)
    rw [show ((k:Int)).toNat=k from rfl,Nat.div_eq_of_lt hlt]
    simp
   rw [e]
   exact Bit_above ao n cap k (k / 32) w h2 hn eq z0c
theorem bitI_top {V:Nat} (h:0 < V) {k:Int} (hk:k=(bl V:Int) - 1):bitI V k=true:=by
 have hb:=bl_pos h
 unfold bitI
 rw [hk,decide_eq_true z0c,show ((bl V:Int) - 1).toNat=bl V - 1 from by omega,bit_of_bl h]
 rfl
theorem bitI_above {V:Nat} {k:Int} (hk:(bl V:Int)≤k):bitI V k=false:=by
 unfold bitI
 rw [bit_zero_above z0c]
 simp
theorem bitI_tz {V:Nat} (h:0 < V):bitI V ((tz V:Nat):Int)=true:=by
 unfold bitI
 rw [Int.toNat_natCast,bit_tz h,decide_eq_true z0c]
 rfl
theorem bitI_below {V k:Nat} (h:0 < V) (hk:k < tz V):bitI V (k:Int)=false:=by
 unfold bitI
 rw [Int.toNat_natCast,bit_below_tz h hk,decide_eq_true z0c]
 rfl
theorem DLen_any (v:Value) (n V:Nat) (w:World) (h:DN w v n V) :
  Calls Tryz.prog 110 #[v] w fun e w'=>e=.returned (.int .i64 (bl V:Nat))∧w=w':=by
 have h':=h
 have hbl:=(bl_le_iff V (32 * n)).2 h.1
 obtain ⟨hV,hn,ao,cap,rfl,hcap,hcm,_⟩:=h'
 have H:=Lib.hid h
 clear h hV
 go_enter Tryz.func110,Tryz.ntmps110
 repeat any_goals (first|go_skip|go_guarded|go_step|go_upon|(simp only [];done))
 go_loop [3] (fun i=>∃ k:Nat,k≤32 * n∧bl V≤k∧i=.int .i64 k) (fun i=>(intOf i).toNat)
 case atStart=>exact ⟨32 * n,by omega,by omega,by go_num⟩
 case round=>
  obtain ⟨k,hk,hb,rfl⟩:=hrel
  repeat any_goals (first|(go_at_call 126;refine (Bit_any _ _ _ _ _ H.out z0c z0c).mono ?_;rintro e w' ⟨rfl,rfl⟩)|go_skip|go_guarded|go_step|go_upon|(dsimp only []))
  ·have h1:(!bitI V ((k:Int) - 1))=true:=by assumption
   have h0:0 < k:=by assumption
   go_round
   case rel=>
    refine ⟨k - 1,by omega,?_,by go_num⟩
    rcases Nat.lt_or_ge (bl V) k with h2|h2
    ·omega
    ·have hp:0 < V:=by
      rcases Nat.eq_zero_or_pos V with h3|h3
      ·subst h3;rw [bl_zero] at h2;omega
      ·exact h3
     rw [bitI_top hp z0c] at h1
     cases h1
   case measure=>simp [intOf];omega
  ·have h1:(!bitI V ((k:Int) - 1))=false:=by assumption
   have h0:0 < k:=by assumption
   have he:bl V=k:=by
    rcases Nat.lt_or_ge (bl V) k with h2|h2
    ·rw [bitI_above z0c] at h1
     cases h1
    ·omega
   go_ret
   simp [he]
  ·have h0:¬ 0 < k:=by assumption
   have he:bl V=k:=by omega
   go_ret
   simp [he]
theorem DTrail_any (v:Value) (n V:Nat) (w:World) (h:DN w v n V) :
  Calls Tryz.prog 111 #[v] w fun e w'=>e=.returned (.int .i64 (if V=0 then 256 else tz V:Nat))∧w=w':=by
 have hn:=h.2.1
 have hbl:=(bl_le_iff V (32 * n)).2 h.1
 have H:=Lib.hid h
 clear h
 by_cases c:V=0
 ·subst c
  rw [if_pos rfl]
  go_enter Tryz.func111,Tryz.ntmps111
  repeat any_goals (first|(go_at_call 110;refine (DLen_any _ _ _ _ H.out).mono ?_;rintro e w' ⟨rfl,rfl⟩)|go_skip|go_guarded|go_step|go_upon|(dsimp only []))
  go_ret
  simp
 ·rw [if_neg c]
  have hp:0 < V:=by omega
  have hlt:=tz_lt_bl hp
  have hb0:(((bl V:Nat):Int) == 0)=false:=by simp;omega
  go_enter Tryz.func111,Tryz.ntmps111
  repeat any_goals (first|(go_at_call 110;refine (DLen_any _ _ _ _ H.out).mono ?_;rintro e w' ⟨rfl,rfl⟩)|go_skip|go_guarded|go_step|go_upon|(dsimp only []))
  go_loop [3] (fun i=>∃ k:Nat,k≤tz V∧i=.int .i64 k) (fun i=>tz V - (intOf i).toNat)
  case atStart=>exact ⟨0,by omega,by go_num⟩
  case round=>
   obtain ⟨k,hk,rfl⟩:=hrel
   have hk2:k≤9007199232:=by omega
   have K:=Lib.hid hk
   clear hk hlt hbl hn
   repeat any_goals (first|(go_at_call 126;refine (Bit_any _ _ _ _ _ H.out z0c z0c).mono ?_;rintro e w' ⟨rfl,rfl⟩)|go_skip|go_guarded|go_step|go_upon|(dsimp only []))
   all_goals have hk:=K.out
   ·have h1:(!bitI V (k:Int))=true:=by assumption
    go_round
    case rel=>
     refine ⟨k+1,?_,by go_num⟩
     rcases Nat.lt_or_ge k (tz V) with h2|h2
     ·omega
     ·have:k=tz V:=by omega
      subst this
      rw [bitI_tz hp] at h1
      cases h1
    case measure=>
     simp [intOf]
     rcases Nat.lt_or_ge k (tz V) with h2|h2
     ·omega
     ·have:k=tz V:=by omega
      subst this
      rw [bitI_tz hp] at h1
      cases h1
   ·have h1:(!bitI V (k:Int))=false:=by assumption
    have he:tz V=k:=by
     rcases Nat.lt_or_ge k (tz V) with h2|h2
     ·rw [bitI_below hp h2] at h1
      cases h1
     ·omega
    go_ret
    simp [he]
theorem trim_all (v:Value) (n V:Nat) (w:World) (h:DN w v n V) :
  Calls Tryz.prog 125 #[v] w fun e w'=>(∃ v',e=.returned v'∧∀ w0,DN w0 v n V→IsD w0 v' V)∧w=w':=by
 have hd:=(dl_le_iff V n).2 h.1
 obtain ⟨hV,hn,ao,cap,rfl,hcap,hcm,hc⟩:=h
 rcases Nat.eq_zero_or_pos n with c|c
 ·subst c
  have hV0:V=0:=by simpa using hV
  have R:∀ w0,DN w0 (.slice ao 0 cap) 0 V→IsD w0 (.slice ao 0 cap) V:=by
   intro w0 _
   subst hV0
   exact ⟨by decide,by decide,ao,cap,rfl,Nat.zero_le _,hcm,fun h=>absurd h z0e⟩
  clear hV hc
  go_enter Tryz.func125,Tryz.ntmps125
  repeat any_goals (first|go_skip|go_guarded|go_step|go_upon|(simp only [];done))
  go_loop [3] (fun i=>i=.int .i64 0) (fun i=>(intOf i).toNat)
  case atStart=>rfl
  case round=>
   subst hrel
   repeat any_goals (first|go_skip|go_guarded|go_step|go_upon|(simp only [];done))
   go_ret
   exact ⟨⟨_,rfl,R⟩,rfl⟩
 ·obtain ⟨b,rfl,_,hcell⟩:=hc c
  clear hc
  have R:∀ k,dl V=k→k≤n→∀ w0,DN w0 (.slice (some ⟨b,0,none⟩) n cap) n V→IsD w0 (.slice (some ⟨b,0,none⟩) k cap) V:=by
   intro k h1 h2 w0 h0
   subst h1
   obtain ⟨_,_,ao0,cap0,he,_,_,hc0⟩:=h0
   obtain ⟨b0,hb0,hb1,hcell0⟩:=hc0 c
   simp only [Value.slice.injEq] at he
   obtain ⟨he1,_,_⟩:=he
   rw [← he1] at hb0
   simp only [Option.some.injEq,Addr.mk.injEq] at hb0
   obtain ⟨rfl,_,_⟩:=hb0
   exact ⟨dl_lt V,by omega,_,cap,rfl,by omega,hcm,fun _=>⟨b,rfl,hb1,fun j hj=>hcell0 j z0c⟩⟩
  have RH:=Lib.hid R
  have VH:=Lib.hid hV
  clear R hV
  go_enter Tryz.func125,Tryz.ntmps125
  repeat any_goals (first|go_skip|go_guarded|go_step|go_upon|(simp only [];done))
  go_loop [3] (fun i=>∃ k:Nat,k≤n∧dl V≤k∧i=.int .i64 k) (fun i=>(intOf i).toNat)
  case atStart=>exact ⟨n,by omega,hd,by go_num⟩
  case round=>
   obtain ⟨k,hk,hk2,rfl⟩:=hrel
   have hcell2:0 < k→w.cell? ⟨b,k - 1,none⟩=some (.int .u32 (dig V (k - 1):Nat)):=fun _=>hcell _ z0c
   repeat any_goals (first|go_skip|go_guarded|go_step|go_upon|(simp only [];done))
   ·have h0:0 < k:=by assumption
    have h1:(((dig V (k - 1):Nat):Int) == 0)=true:=by assumption
    have h2:dig V (k - 1)=0:=by simpa using h1
    go_round
    case rel=>
     refine ⟨k - 1,by omega,?_,by go_num⟩
     have h3:=(dl_le_iff V k).1 hk2
     rw [show k=(k - 1)+1 from by omega] at h3
     exact (dl_le_iff V (k - 1)).2 (lt_of_dig_zero h3 h2)
    case measure=>simp [intOf];omega
   ·have h0:0 < k:=by assumption
    have h1:(((dig V (k - 1):Nat):Int) == 0)=false:=by assumption
    have h2:dig V (k - 1)≠0:=by simpa using h1
    have h3:=(dl_le_iff V k).1 hk2
    rw [show k=(k - 1)+1 from by omega] at h3
    have he:=dl_eq h3 h2
    go_ret
    exact ⟨⟨_,rfl,RH.out k z0c hk⟩,rfl⟩
   ·have h0:¬ 0 < k:=by assumption
    go_ret
    exact ⟨⟨_,rfl,RH.out k z0c hk⟩,rfl⟩
theorem trim_any (v:Value) (n V:Nat) (w:World) (h:DN w v n V) :
  Calls Tryz.prog 125 #[v] w fun e w'=>(∃ v',e=.returned v'∧IsD w v' V)∧w=w':=
 (trim_all v n V w h).mono fun _ _ ⟨⟨v',h1,h2⟩,h3⟩=>⟨⟨v',h1,h2 w h⟩,h3⟩
theorem DN_two {w:World} {x lo hi b:Nat} (hx:x < 18446744073709551616) (hlo:lo=x % 4294967296) (hhi:hi=x / 4294967296) (hb:b < w.heap.size) (c0:w.cell? ⟨b,0,none⟩=some (.int .u32 (lo:Nat))) (c1:w.cell? ⟨b,1,none⟩=some (.int .u32 (hi:Nat))) :
  DN w (.slice (some ⟨b,0,none⟩) 2 2) 2 x:=by
 refine ⟨hx,by decide,_,2,rfl,Nat.le_refl _,by decide,fun _=>⟨b,rfl,hb,fun j hj=>?_⟩⟩
 subst hlo hhi
 match j,hj with
 | 0,_=>rw [c0];unfold dig;simp
 | 1,_=>rw [c1];unfold dig;simp;omega
theorem Small_any (x:Nat) (hx:x < 18446744073709551616) (w:World) :
  Calls Tryz.prog 129 #[.int .u64 (x:Int)] w fun e w'=>∃ v,e=.returned v∧IsD w' v x∧Below w.heap.size w w':=by
 obtain ⟨lo,hlo⟩:∃ lo,lo=x % 4294967296:=⟨_,rfl⟩
 obtain ⟨hi,hhi⟩:∃ hi,hi=x / 4294967296:=⟨_,rfl⟩
 have e1:(x:Int) % 4294967296=(lo:Int):=by omega
 have e2:(x:Int) / 4294967296=(hi:Int):=by omega
 have D:=@DN_two (w.alloc (Obj.cells #[.int .u32 (lo:Int),.int .u32 (hi:Int)] 140)) x lo hi w.heap.size hx hlo hhi z0f z0z z0z
 have H:=Lib.hid D
 clear D hlo hhi
 go_enter Tryz.func129,Tryz.ntmps129
 repeat any_goals (first|(go_at_call 125;refine (trim_any _ _ _ _ H.out).mono ?_;rintro e w' ⟨⟨v,rfl,hv⟩,rfl⟩)|go_skip|go_guarded|go_step|go_upon|(dsimp only []))
 go_ret
 exact ⟨v,rfl,hv,zb2⟩
def digl (V m:Nat):List Value:=(List.range m).map fun j=>Value.int .u32 (dig V j:Nat)
theorem digl_length (V m:Nat):(digl V m).length=m:=by simp [digl]
theorem digl_get {V m j:Nat} (h:j < m):(digl V m)[j]? = some (.int .u32 (dig V j:Nat)):=by
 simp [digl,List.getElem?_map,List.getElem?_range h]
theorem infoU32:(Tryz.prog.info? 140).map (fun i=>(i.zero,i.size,i.bytes))=some (some (.int .u32 0),1,4):=by kernel_rfl
theorem DN_own {w:World} {base n V:Nat} {v:Value} (h:w.ownsRow base 140 1 v n (digl V n)) (hV:V < 2 ^ (32 * n)) (hn:n≤281474976):DN w v n V:=by
 refine ⟨hV,hn,?_⟩
 have hl:=h.lt
 rcases h.2 with ⟨rfl,rfl⟩|⟨g,cap,cur,rfl,hg,hh,hc,hm,_,_⟩
 ·exact ⟨none,0,rfl,Nat.le_refl _,by decide,fun h=>absurd h z0e⟩
 ·refine ⟨_,cap,rfl,hc,hm,fun _=>⟨g,rfl,(hl g rfl).2,fun j hj=>?_⟩⟩
  rw [h.cellAt j z0c,digl_get hj]
theorem dig_lo (V k:Nat):lm V k % 4294967296=dig V (2 * k):=by
 unfold lm dig
 rw [show 32 * (2 * k)=64 * k from by omega]
 generalize V / 2 ^ (64 * k)=x
 omega
theorem dig_hi (V k:Nat):lm V k / 4294967296=dig V (2 * k+1):=by
 unfold lm dig
 rw [show 32 * (2 * k+1)=64 * k+32 from by omega,Nat.pow_add,← Nat.div_div_eq_div_mul]
 generalize V / 2 ^ (64 * k)=x
 omega
theorem dig_split (V j:Nat):V=V % 2 ^ (32 * j)+2 ^ (32 * j) * (dig V j+4294967296 * (V / 2 ^ (32 * (j+1)))):=by
 unfold dig
 rw [show 32 * (j+1)=32 * j+32 from by omega,Nat.pow_add,← Nat.div_div_eq_div_mul,show (2:Nat) ^ 32=4294967296 from by decide,Nat.mod_add_div,Nat.mod_add_div]
def sd (V j d:Nat):Nat:=V % 2 ^ (32 * j)+2 ^ (32 * j) * (d+4294967296 * (V / 2 ^ (32 * (j+1))))
theorem sd_add (V j d:Nat):sd V j d+dig V j * 2 ^ (32 * j)=V+d * 2 ^ (32 * j):=by
 have h:=dig_split V j
 unfold sd
 generalize V % 2 ^ (32 * j)=L at *
 generalize V / 2 ^ (32 * (j+1))=H at *
 generalize dig V j=x at *
 generalize 2 ^ (32 * j)=B at *
 rw [h,Nat.mul_add,Nat.mul_add,Nat.mul_comm x B,Nat.mul_comm d B]
 omega
theorem dig_of_split {L B d H j:Nat} (hB:B=2 ^ (32 * j)) (hL:L < B) (hd:d < 4294967296) (i:Nat):dig (L+B * (d+4294967296 * H)) i=if i < j then dig L i else if i=j then d else dig H (i - j - 1):=by
 subst hB
 have hp:=Nat.two_pow_pos (32 * j)
 unfold dig
 by_cases c:i < j
 ·rw [if_pos c]
  have e:(2:Nat) ^ (32 * j)=2 ^ (32 * i) * (2 ^ (32 * (j - i - 1)) * 4294967296):=by
   rw [show (4294967296:Nat)=2 ^ 32 from by decide,← Nat.pow_add,← Nat.pow_add]
   congr 1
   omega
  rw [e,Nat.mul_assoc,Nat.add_mul_div_left _ _ (Nat.two_pow_pos _),Nat.mul_right_comm,Nat.add_mul_mod_self_right]
 ·rw [if_neg c]
  have hq:(L+2 ^ (32 * j) * (d+4294967296 * H)) / 2 ^ (32 * j)=d+4294967296 * H:=by
   rw [Nat.add_mul_div_left _ _ hp,Nat.div_eq_of_lt hL,Nat.zero_add]
  by_cases e:i=j
  ·subst e
   rw [if_pos rfl,hq]
   omega
  ·rw [if_neg e,show 32 * i=32 * j+(32+32 * (i - j - 1)) from by omega,Nat.pow_add,← Nat.div_div_eq_div_mul,hq,Nat.pow_add,← Nat.div_div_eq_div_mul,show (2:Nat) ^ 32=4294967296 from by decide]
   congr 2
   omega
theorem dig_sd (V j d:Nat) (hd:d < 4294967296) (i:Nat):dig (sd V j d) i=if i=j then d else dig V i:=by
 have hL:V % 2 ^ (32 * j) < 2 ^ (32 * j):=Nat.mod_lt _ (Nat.two_pow_pos _)
 unfold sd
 rw [dig_of_split rfl hL hd]
 have h2:=dig_of_split (L:=V % 2 ^ (32 * j)) (d:=dig V j) (H:=V / 2 ^ (32 * (j+1))) (j:=j) rfl hL (dig_lt V j) i
 rw [← dig_split] at h2
 rw [h2]
 by_cases c:i=j
 ·subst c
  rw [if_neg z0c,if_pos rfl,if_pos rfl]
 ·rw [if_neg c,if_neg c]
  by_cases e:i < j
  ·rw [if_pos e,if_pos e]
  ·rw [if_neg e,if_neg e,if_neg c]
theorem digl_set {V n j d:Nat} (hd:d < 4294967296):(digl V n).set j (.int .u32 (d:Nat))=digl (sd V j d) n:=by
 apply List.ext_getElem?
 intro i
 rw [List.getElem?_set,digl_length]
 by_cases c:i < n
 ·rw [digl_get c,digl_get c,dig_sd V j d hd]
  by_cases e:j=i
  ·subst e
   rw [if_pos rfl,if_pos c,if_pos rfl]
  ·rw [if_neg e,if_neg (fun h=>e h.symm)]
 ·rw [List.getElem?_eq_none (by rw [digl_length];omega),List.getElem?_eq_none (by rw [digl_length];omega)]
  split
  ·rename_i h
   rw [if_neg z0c]
  ·rfl
theorem dig_0 (j:Nat):dig 0 j=0:=by simp [dig]
theorem madeCells_digl (n:Nat):(madeCells (Value.int .u32 0).cells (n * 1)).toList=digl 0 n:=by
 apply List.ext_getElem?
 intro j
 by_cases c:j < n
 ·rw [digl_get c,dig_0]
  simp [madeCells,Value.cells,c,Nat.mod_one]
 ·rw [List.getElem?_eq_none (by rw [Array.length_toList,size_madeCells];omega),List.getElem?_eq_none (by rw [digl_length];omega)]
theorem at_in (b n cap q x:Nat) (w:World) (_hn:n≤281474976) (hq:q < n) (hx:x < 4294967296) (hc:w.cell? ⟨b,q,none⟩=some (.int .u32 (x:Nat))) :
  Calls Tryz.prog 135 #[.slice (some ⟨b,0,none⟩) n cap,.int .i64 (q:Int)] w fun e w'=>e=.returned (.int .u64 (x:Nat))∧w=w':=by
 go_enter Tryz.func135,Tryz.ntmps135
 exact z17zk2
theorem at_out (ao:Option Addr) (n cap q:Nat) (w:World) (hq:¬ q < n) :
  Calls Tryz.prog 135 #[.slice ao n cap,.int .i64 (q:Int)] w fun e w'=>e=.returned (.int .u64 0)∧w=w':=by
 go_enter Tryz.func135,Tryz.ntmps135
 exact z17zk2
theorem at_any (v:Value) (n V q:Nat) (w:World) (h:DN w v n V) :
  Calls Tryz.prog 135 #[v,.int .i64 (q:Int)] w fun e w'=>e=.returned (.int .u64 (dig V q:Nat))∧w=w':=by
 obtain ⟨hV,hn,ao,cap,rfl,hcap,_,hc⟩:=h
 by_cases c:q < n
 ·obtain ⟨b,rfl,_,hcell⟩:=hc z0c
  exact at_in b n cap q _ w hn c (dig_lt _ _) (hcell q c)
 ·rw [dig_zero hV z0c]
  exact at_out ao n cap q w c
theorem sd_0 (q d:Nat):sd 0 q d=d * 2 ^ (32 * q):=by
 have h:=sd_add 0 q d
 rw [dig_0,Nat.zero_mul,Nat.add_zero,Nat.zero_add] at h
 exact h
theorem Pow_walk (k q r x:Nat) (w:World) (hk:k≤9000000) (eq:(k:Int) / 32=(q:Int)) (er:(k:Int) % 32=(r:Int)) (hq:q≤300000) (_hr:r < 32) (hx:x < 4294967296) (ex:IntKind.u32.wrap (2 ^ r)=(x:Int)) :
  Calls Tryz.prog 134 #[.int .i64 (k:Int)] w fun e w'=>∃ v,e=.returned v∧w'.ownsRow w.heap.size 140 1 v (q+1) (digl (sd 0 q x) (q+1))∧Below w.heap.size w w':=by
 obtain ⟨i0,hi,hz0,hz1,hz2⟩:=info_parts infoU32
 go_enter Tryz.func134,Tryz.ntmps134
 repeat any_goals (first|(at_make;refine wpList_make_full _ rfl (.tmp 6) (.tmp 6) 130 rfl w.heap.size 140 i0 (.int .u32 0) 1 Tryz.underlying130 hi hz0 hz1 .i64 .i64 _ _ (q+1) rfl rfl z0c z0c (by rw [hz2];omega) z0k (Nat.le_refl _) ?_;intro w1 hown hgrow;rw [madeCells_digl] at hown;have cw:=hown.cellAt q z0c;rw [digl_get z0c] at cw;have fw:=hown.frozenAt q;have OH:=Lib.hid (And.intro (hown.stored q (.int .u32 (x:Int))) hgrow);clear hown hgrow)|go_skip|go_guarded|go_step|go_upon|(dsimp only []))
 obtain ⟨⟨o1,o2⟩,g⟩:=OH.out
 rw [digl_set hx] at o1
 go_ret
 exact ⟨_,rfl,o1,((Below.refl _ _).grown g (Nat.le_refl _) (fun k h=>by cases h)).grown o2 (by have:=g.size;omega) (fun k h=>by cases h;exact Nat.le_refl _)⟩
theorem Pow_any (k:Nat) (hk:k≤9000000) (w:World) :
  Calls Tryz.prog 134 #[.int .i64 (k:Int)] w fun e w'=>∃ v,e=.returned v∧DN w' v (k / 32+1) (2 ^ k)∧Below w.heap.size w w':=by
 have hr:k % 32 < 32:=Nat.mod_lt _ z0e
 have hx:2 ^ (k % 32) < 4294967296:=Nat.lt_of_lt_of_le (Nat.pow_lt_pow_right z0e hr) z0e
 have ex:IntKind.u32.wrap (2 ^ (k % 32))=((2 ^ (k % 32):Nat):Int):=by
  rw [show (2 ^ (k % 32):Int)=((2 ^ (k % 32):Nat):Int) from by simp,IntKind.wrap_u32]
  have h:∀ z:Nat,z < 4294967296→(z:Int) % 4294967296=z:=fun z hz=>by omega
  exact h _ hx
 refine (Pow_walk k (k / 32) (k % 32) _ w hk z0c z0c z0c hr hx ex).mono ?_
 rintro e w' ⟨v,rfl,ho,hb⟩
 have e:sd 0 (k / 32) (2 ^ (k % 32))=2 ^ k:=by
  rw [sd_0,← Nat.pow_add]
  congr 1
  omega
 rw [e] at ho
 exact ⟨v,rfl,DN_own ho (Nat.pow_lt_pow_right z0e z0c) z0c,hb⟩
theorem mod_succ (V j:Nat):V % 2 ^ (32 * (j+1))=V % 2 ^ (32 * j)+dig V j * 2 ^ (32 * j):=by
 unfold dig
 rw [show 32 * (j+1)=32 * j+32 from by omega,Nat.pow_add,Nat.mod_mul,show (2:Nat) ^ 32=4294967296 from by decide,Nat.mul_comm (2 ^ (32 * j))]
theorem mul_step {P P0 A B c x d y k j:Nat} (hI:P+c * 2 ^ (32 * (k+j))=P0+d * (B % 2 ^ (32 * j)) * 2 ^ (32 * k)) (hx:x=dig P (k+j)) (hy:y=dig B j) (_hA:d=dig A k) :
  sd P (k+j) ((c+x+d * y) % 4294967296)+(c+x+d * y) / 4294967296 * 2 ^ (32 * (k+(j+1)))=P0+d * (B % 2 ^ (32 * (j+1))) * 2 ^ (32 * k):=by
 have h1:=sd_add P (k+j) ((c+x+d * y) % 4294967296)
 rw [← hx] at h1
 have h2:(2:Nat) ^ (32 * (k+(j+1)))=4294967296 * 2 ^ (32 * (k+j)):=by
  rw [show 32 * (k+(j+1))=32+32 * (k+j) from by omega,Nat.pow_add,show (2:Nat) ^ 32=4294967296 from by decide]
 have h3:d * (B % 2 ^ (32 * (j+1))) * 2 ^ (32 * k)=d * (B % 2 ^ (32 * j)) * 2 ^ (32 * k)+d * y * 2 ^ (32 * (k+j)):=by
  rw [mod_succ,← hy,Nat.mul_add,Nat.add_mul,show 32 * (k+j)=32 * j+32 * k from by omega,Nat.pow_add,← Nat.mul_assoc,← Nat.mul_assoc]
 rw [h2,h3,← Nat.add_assoc,← hI]
 generalize sd P (k+j) ((c+x+d * y) % 4294967296)=S at *
 generalize 2 ^ (32 * (k+j))=T at *
 generalize hm:c+x+d * y=m at *
 have h4:m % 4294967296 * T+m / 4294967296 * (4294967296 * T)=m * T:=by
  have h6:m % 4294967296+m / 4294967296 * 4294967296=m:=by omega
  rw [← Nat.mul_assoc,← Nat.add_mul,h6]
 have h5:m * T=c * T+x * T+d * y * T:=by rw [← hm,Nat.add_mul,Nat.add_mul]
 omega
theorem mul_bound {P c A B k j lb:Nat} (hB:B < 2 ^ (32 * lb)) (hj:lb≤j) (hI:P+c * 2 ^ (32 * (k+j))=(A % 2 ^ (32 * k)) * B+dig A k * (B % 2 ^ (32 * j)) * 2 ^ (32 * k)) (hc:0 < c):j≤lb:=by
 have h1:B % 2 ^ (32 * j)=B:=Nat.mod_eq_of_lt (Nat.lt_of_lt_of_le hB (Nat.pow_le_pow_right z0e z0c))
 rw [h1,Nat.mul_right_comm,← Nat.add_mul,← mod_succ] at hI
 have h2:A % 2 ^ (32 * (k+1)) < 2 ^ (32 * (k+1)):=Nat.mod_lt _ (Nat.two_pow_pos _)
 have h3:2 ^ (32 * (k+j)) < 2 ^ (32 * (k+1)+32 * lb):=by
  rw [Nat.pow_add]
  have h4:2 ^ (32 * (k+j))≤c * 2 ^ (32 * (k+j)):=Nat.le_mul_of_pos_left _ hc
  have h5:A % 2 ^ (32 * (k+1)) * B < 2 ^ (32 * (k+1)) * 2 ^ (32 * lb):=by
   have hp:=Nat.two_pow_pos (32 * lb)
   rcases Nat.eq_zero_or_pos (A % 2 ^ (32 * (k+1))) with h0|h0
   ·rw [h0,Nat.zero_mul];exact Nat.mul_pos (Nat.two_pow_pos _) hp
   ·exact Nat.mul_lt_mul_of_lt_of_le h2 (Nat.le_of_lt hB) z0c
  omega
 have:=(Nat.pow_lt_pow_iff_right (by decide:1 < 2)).1 h3
 omega
theorem mul_end {P A B k j lb:Nat} (hB:B < 2 ^ (32 * lb)) (hj:lb≤j) (hI:P+0 * 2 ^ (32 * (k+j))=(A % 2 ^ (32 * k)) * B+dig A k * (B % 2 ^ (32 * j)) * 2 ^ (32 * k)):P=(A % 2 ^ (32 * (k+1))) * B:=by
 have h1:B % 2 ^ (32 * j)=B:=Nat.mod_eq_of_lt (Nat.lt_of_lt_of_le hB (Nat.pow_le_pow_right z0e z0c))
 rw [h1,Nat.mul_right_comm,← Nat.add_mul,← mod_succ] at hI
 omega
theorem at_quiet (v:Value) (n V q:Nat) (w:World) (m:Nat) (h:DN (w.drewN m) v n V) :
  Calls Tryz.prog 135 #[v,.int .i64 (q:Int)] (w.drewN m) fun e w'=>e=.returned (.int .u64 (dig V q:Nat))∧w'=w.drewN m:=
 (at_any v n V q _ h).mono fun _ _ ⟨h1,h2⟩=>⟨h1,h2.symm⟩
theorem DN.drewN {w:World} {v:Value} {n V:Nat} (h:DN w v n V) (m:Nat):DN (w.drewN m) v n V:=by
 obtain ⟨h1,h0,ao,cap,h2,h3,h4,h5⟩:=h
 exact ⟨h1,h0,ao,cap,h2,h3,h4,h5⟩
theorem own_drewN {w:World} {B e n:Nat} {v:Value} {xs:List Value} (h:w.ownsRow B e 1 v n xs) (m:Nat):(w.drewN m).ownsRow B e 1 v n xs:=h
theorem below_drewN {B:Nat} {a w:World} (h:Below B a w) (m:Nat):Below B a (w.drewN m):=⟨h.os,h.tape,h.output,h.size,h.block⟩
theorem row_store {w wr:World} {n P q lo m:Nat} (hown:wr.ownsRow w.heap.size 140 1 (.slice (some ⟨w.heap.size,0,none⟩) n n) n (digl P n)) (hb:Below w.heap.size w wr) (hlo:lo < 4294967296) :
  ((wr.drewN m).setCell ⟨w.heap.size,q,none⟩ (.int .u32 (lo:Int))).ownsRow w.heap.size 140 1 (.slice (some ⟨w.heap.size,0,none⟩) n n) n (digl (sd P q lo) n)∧Below w.heap.size w ((wr.drewN m).setCell ⟨w.heap.size,q,none⟩ (.int .u32 (lo:Int))):=by
 obtain ⟨o1,o2⟩:=(own_drewN hown m).stored q (.int .u32 (lo:Int))
 rw [digl_set hlo] at o1
 exact ⟨o1,(below_drewN hb m).grown o2 hb.size (fun k h=>by cases h;exact Nat.le_refl _)⟩
theorem mul_small {cc x d y:Nat} (hc:cc < 4294967296) (hx:x < 4294967296) (hd:d < 4294967296) (hy:y < 4294967296):d * y < 18446744073709551616∧cc+x+d * y < 18446744073709551616∧(cc+x+d * y) / 4294967296 < 4294967296:=by
 have h:d * y≤4294967295 * 4294967295:=Nat.mul_le_mul z0c z0c
 generalize d * y=m at *
 omega
theorem wrap64u {n:Nat} (h:n < 18446744073709551616):IntKind.u64.wrap (n:Int)=n:=by rw [IntKind.wrap_u64];omega
theorem Mul_walk (ba la ca A:Nat) (bo:Option Addr) (lb cb B:Nat) (w:World) (hla:la≤100000000) (hla0:0 < la) (hlb:lb≤100000000) (hbaw:ba < w.heap.size) (hca:∀ j,j < la→w.cell? ⟨ba,j,none⟩=some (.int .u32 (dig A j:Nat))) (hB:DN w (.slice bo lb cb) lb B) (hA:A < 2 ^ (32 * la)) :
  Calls Tryz.prog 133 #[.slice (some ⟨ba,0,none⟩) la ca,.slice bo lb cb] w fun e w'=>∃ v,e=.returned v∧IsD w' v (A * B)∧Below w.heap.size w w':=by
 obtain ⟨i0,hi,hz0,hz1,hz2⟩:=info_parts infoU32
 have HB:=Lib.hid hB
 have HA:=Lib.hid (And.intro hA hca)
 clear hB hA hca
 go_enter Tryz.func133,Tryz.ntmps133
 repeat any_goals (first|(at_make;refine wpList_make_full _ rfl (.tmp 14) (.tmp 14) 130 rfl w.heap.size 140 i0 (.int .u32 0) 1 Tryz.underlying130 hi hz0 hz1 .i64 .i64 _ _ (la+lb+1) rfl rfl z0c z0c (by rw [hz2];omega) z0k (Nat.le_refl _) ?_;intro w1 hown hgrow;rw [madeCells_digl] at hown;have OH:=Lib.hid (And.intro hown hgrow);clear hown hgrow)|go_skip|go_guarded|go_step|go_upon|(dsimp only []))
 go_loopw [6] (fun i wr=>∃ k:Nat,k≤la∧i=.int .i64 k∧wr.ownsRow w.heap.size 140 1 (.slice (some ⟨w.heap.size,0,none⟩) (la+lb+1) (la+lb+1)) (la+lb+1) (digl (A % 2 ^ (32 * k) * B) (la+lb+1))∧Below w.heap.size w wr)
  (fun i _=>la - (intOf i).toNat)
 case atStart=>
  refine ⟨0,by omega,rfl,?_,(Below.refl _ _).grown OH.out.2 (Nat.le_refl _) (fun k h=>by cases h)⟩
  rw [Nat.mul_zero,Nat.pow_zero,Nat.mod_one,Nat.zero_mul]
  exact OH.out.1
 case round=>
  obtain ⟨k,hk,rfl,hown,hbel⟩:=hrel
  repeat any_goals (first|go_skip|go_guarded|go_step|go_upon|(simp only [];done))
  ·have hkl:k < la:=by omega
   rw [decide_eq_true hkl]
   go_loopw [7,8] (fun c i wi=>∃ j cc P:Nat,j≤lb+1∧cc < 4294967296∧c=.int .u64 cc∧i=.int .i64 j∧wi.ownsRow w.heap.size 140 1 (.slice (some ⟨w.heap.size,0,none⟩) (la+lb+1) (la+lb+1)) (la+lb+1) (digl P (la+lb+1))∧P+cc * 2 ^ (32 * (k+j))=(A % 2 ^ (32 * k)) * B+dig A k * (B % 2 ^ (32 * j)) * 2 ^ (32 * k)∧Below w.heap.size w wi)
    (fun _ i _=>lb+2 - (intOf i).toNat)
   case atStart=>
    refine ⟨0,0,A % 2 ^ (32 * k) * B,by omega,by omega,rfl,rfl,hown,?_,hbel⟩
    simp [Nat.mod_one]
   case round=>
    obtain ⟨j,cc,P,hj,hcc,rfl,rfl,howni,hI,hbeli⟩:=hrel
    have hjb:0 < cc→lb≤j→j≤lb:=fun h1 h2=>mul_bound ((dl_le_iff B lb).1 ((dl_le_iff B lb).2 HB.out.1)) h2 hI h1
    have hnx:j≤lb→wr.cell? ⟨w.heap.size,k+j,none⟩=some (.int .u32 (dig P (k+j):Nat)):=fun h=>by rw [howni.cellAt (k+j) z0c,digl_get z0c]
    have hna:=(hbeli.cell (p:=⟨ba,k,none⟩) hbaw).trans (HA.out.2 k hkl)
    have hnb:=HB.out.below hbeli
    obtain ⟨x,hx⟩:∃ x,x=dig P (k+j):=⟨_,rfl⟩
    obtain ⟨d,hd⟩:∃ x,x=dig A k:=⟨_,rfl⟩
    obtain ⟨y,hy⟩:∃ x,x=dig B j:=⟨_,rfl⟩
    have hx4:x < 4294967296:=hx ▸ dig_lt _ _
    have hd4:d < 4294967296:=hd ▸ dig_lt _ _
    have hy4:y < 4294967296:=hy ▸ dig_lt _ _
    rw [← hx] at hnx
    rw [← hd] at hna
    have hQ:∀ m,Calls Tryz.prog 135 #[.slice bo lb cb,.int .i64 (j:Int)] (wr.drewN m) fun e w'=>e=.returned (.int .u64 (y:Nat))∧w'=wr.drewN m:=fun m=>by rw [hy];exact at_quiet _ _ _ _ _ _ (hnb.drewN m)
    have fz:=howni.frozenAt (k+j)
    obtain ⟨ms1,ms2,ms3⟩:=mul_small hcc hx4 hd4 hy4
    obtain ⟨m,hm⟩:∃ m,m=d * y:=⟨_,rfl⟩
    rw [← hm] at ms1 ms2 ms3
    obtain ⟨t,ht⟩:∃ t,t=cc+x+m:=⟨_,rfl⟩
    rw [← ht] at ms2 ms3
    obtain ⟨lo,hlo⟩:∃ z,z=t % 4294967296:=⟨_,rfl⟩
    obtain ⟨hi',hhi⟩:∃ z,z=t / 4294967296:=⟨_,rfl⟩
    have em:IntKind.u64.wrap ((d:Int) * (y:Int))=(m:Int):=by rw [show (d:Int) * (y:Int)=((d * y:Nat):Int) from by simp,← hm];exact wrap64u ms1
    have es:IntKind.u64.wrap ((cc:Int)+(x:Int)+(m:Int))=(t:Int):=by rw [show (cc:Int)+(x:Int)+(m:Int)=((cc+x+m:Nat):Int) from by simp,← ht];exact wrap64u ms2
    have el:(t:Int) % 4294967296=(lo:Int):=by omega
    have eh:(t:Int) / 4294967296=(hi':Int):=by omega
    have hlo4:lo < 4294967296:=by omega
    rw [← hhi] at ms3
    have GM:=Lib.hid (And.intro hm (And.intro ht (And.intro hlo (And.intro hhi ms2))))
    clear hm ht hlo hhi ms1 ms2
    have G:=Lib.hid (And.intro hI (And.intro hbeli (And.intro howni (And.intro hx (And.intro hd hy)))))
    have GQ:=Lib.hid hQ
    clear hI hbeli howni hnb hQ hx hd hy
    have FIN:∀ nq:Nat,j≤lb→(∃ j' cc' P':Nat,j'≤lb+1∧cc' < 4294967296∧Value.int .u64 (hi':Int)=Value.int .u64 cc'∧Value.int .i64 ((j:Int)+1)=Value.int .i64 j'∧((wr.drewN nq).setCell ⟨w.heap.size,k+j,none⟩ (.int .u32 (lo:Int))).ownsRow w.heap.size 140 1 (.slice (some ⟨w.heap.size,0,none⟩) (la+lb+1) (la+lb+1)) (la+lb+1) (digl P' (la+lb+1))∧P'+cc' * 2 ^ (32 * (k+j'))=(A % 2 ^ (32 * k)) * B+dig A k * (B % 2 ^ (32 * j')) * 2 ^ (32 * k)∧Below w.heap.size w ((wr.drewN nq).setCell ⟨w.heap.size,k+j,none⟩ (.int .u32 (lo:Int)))):=by
     intro nq hjl
     obtain ⟨g1,g2,g3,g4,g5,g6⟩:=G.out
     obtain ⟨m1,m2,m3,m4,_⟩:=GM.out
     obtain ⟨r1,r2⟩:=row_store (q:=k+j) (m:=nq) g3 g2 hlo4
     refine ⟨j+1,hi',sd P (k+j) lo,by omega,ms3,rfl,by go_num,r1,?_,r2⟩
     rw [← g5] at g1
     have ms:=mul_step (d:=d) g1 g4 g6 g5
     rw [← m1,← m2,← m3,← m4] at ms
     rw [← g5]
     exact ms
    have FH:=Lib.hid FIN
    clear FIN
    repeat any_goals (first|go_skip|go_guarded|go_step|go_upon|(simp only [];done))
    ·have hjl:j≤lb:=by
      have h1:lb≤j:=by assumption
      have h2:j < lb∨0 < cc:=by assumption
      rcases h2 with h2|h2
      ·omega
      ·exact hjb h2 h1
     exact z17zk3
    ·have h1:lb≤j:=by assumption
     have h2:¬ j < lb∧¬ 0 < cc:=by assumption
     go_roundw
     case rel=>
      have e0:cc=0:=by omega
      subst e0
      have he:=mul_end HB.out.1 h1 G.out.1
      exact ⟨k+1,by omega,by go_num,by rw [← he];exact G.out.2.2.1,G.out.2.1⟩
     case measure=>simp [intOf];omega
    ·have hjl:j≤lb:=by
      have h1:¬ lb≤j:=by assumption
      omega
     exact z17zk3
  ·have hk2:k=la:=by omega
   subst hk2
   have hE:A % 2 ^ (32 * k)=A:=Nat.mod_eq_of_lt HA.out.1
   rw [hE] at hown
   have hlt:A * B < 2 ^ (32 * (k+lb+1)):=by
    have h1:A * B < 2 ^ (32 * k) * 2 ^ (32 * lb):=Nat.mul_lt_mul'' HA.out.1 HB.out.1
    rw [← Nat.pow_add] at h1
    exact Nat.lt_of_lt_of_le h1 (Nat.pow_le_pow_right z0e z0c)
   have hD:=DN_own hown hlt z0c
   have DH:=Lib.hid hD
   clear hD hown hlt
   exact z17zk1
theorem Mul_nil (ao:Option Addr) (ca:Nat) (bo:Option Addr) (lb cb:Nat) (w:World) (hlb:lb≤100000000) :
  Calls Tryz.prog 133 #[.slice ao 0 ca,.slice bo lb cb] w fun e w'=>∃ v,e=.returned v∧IsD w' v 0∧Below w.heap.size w w':=by
 obtain ⟨i0,hi,hz0,hz1,hz2⟩:=info_parts infoU32
 go_enter Tryz.func133,Tryz.ntmps133
 repeat any_goals (first|(at_make;refine wpList_make_full _ rfl (.tmp 14) (.tmp 14) 130 rfl w.heap.size 140 i0 (.int .u32 0) 1 Tryz.underlying130 hi hz0 hz1 .i64 .i64 _ _ (lb+1) rfl rfl z0c z0c (by rw [hz2];omega) z0k (Nat.le_refl _) ?_;intro w1 hown hgrow;rw [madeCells_digl] at hown;have OH:=Lib.hid (And.intro hown hgrow);clear hown hgrow)|go_skip|go_guarded|go_step|go_upon|(dsimp only []))
 go_loopw [6] (fun i wr=>i=.int .i64 0∧wr.ownsRow w.heap.size 140 1 (.slice (some ⟨w.heap.size,0,none⟩) (lb+1) (lb+1)) (lb+1) (digl 0 (lb+1))∧Below w.heap.size w wr)
  (fun i _=>(intOf i).toNat)
 case atStart=>exact ⟨rfl,OH.out.1,(Below.refl _ _).grown OH.out.2 (Nat.le_refl _) (fun k h=>by cases h)⟩
 case round=>
  obtain ⟨rfl,hown,hbel⟩:=hrel
  have hD:=DN_own hown (Nat.two_pow_pos _) z0c
  have DH:=Lib.hid hD
  clear hD hown
  exact z17zk1
theorem Mul_any (va vb:Value) (la lb A B:Nat) (w:World) (ha:DN w va la A) (hb:DN w vb lb B) (hla:la≤100000000) (hlb:lb≤100000000) :
  Calls Tryz.prog 133 #[va,vb] w fun e w'=>∃ v,e=.returned v∧IsD w' v (A * B)∧Below w.heap.size w w':=by
 obtain ⟨hA,_,ao,ca,rfl,_,_,hc⟩:=ha
 have hb':=hb
 obtain ⟨_,_,bo,cb,rfl,_,_,_⟩:=hb'
 by_cases c:0 < la
 ·obtain ⟨b,rfl,hbw,hcell⟩:=hc c
  exact Mul_walk b la ca A bo lb cb B w hla c hlb hbw hcell hb hA
 ·obtain rfl:la=0:=by omega
  have hA0:A=0:=by simpa using hA
  subst hA0
  rw [Nat.zero_mul]
  exact Mul_nil ao ca bo lb cb w hlb
theorem lm_digs (X j:Nat):lm X j=dig X (2 * j)+4294967296 * dig X (2 * j+1):=by
 rw [← dig_lo,← dig_hi]
 omega
theorem dig_mod (V m i:Nat):dig (V % 2 ^ (32 * m)) i=if i < m then dig V i else 0:=by
 by_cases c:i < m
 ·rw [if_pos c]
  have h:=dig_of_split (L:=V % 2 ^ (32 * m)) (d:=dig V m) (H:=V / 2 ^ (32 * (m+1))) (j:=m) rfl (Nat.mod_lt _ (Nat.two_pow_pos _)) (dig_lt V m) i
  rw [← dig_split,if_pos c] at h
  exact h.symm
 ·rw [if_neg c]
  exact dig_zero (Nat.mod_lt _ (Nat.two_pow_pos _)) z0c
theorem lm_digit (V k j:Nat):lm (V % 2 ^ (32 * (k+1))) j=if j=k / 2 then lm (V % 2 ^ (32 * k)) j+dig V k * 2 ^ (32 * (k % 2)) else lm (V % 2 ^ (32 * k)) j:=by
 rw [lm_digs,lm_digs,dig_mod,dig_mod,dig_mod,dig_mod]
 by_cases c:j=k / 2
 ·rw [if_pos c]
  rcases (show k % 2=0∨k % 2=1 by omega) with h|h
  ·have e:2 * j=k:=by omega
   rw [h,if_pos z0c,if_neg z0c,if_neg z0c,if_neg z0c,e]
   simp
  ·have e:2 * j+1=k:=by omega
   rw [h,if_pos z0c,if_pos z0c,if_pos z0c,if_neg z0c,e]
   simp
   omega
 ·rw [if_neg c]
  by_cases d:j < k / 2
  ·rw [if_pos z0c,if_pos z0c,if_pos z0c,if_pos z0c]
  ·rw [if_neg z0c,if_neg z0c,if_neg z0c,if_neg z0c]
theorem or_digit {x d r m:Nat} (hr:r≤1) (hm:m=32 * r) (hd:d < 4294967296) (hx:r=0→x=0) (hx1:x < 4294967296):d * 2 ^ m < 18446744073709551616∧x ||| (d * 2 ^ m)=x+d * 2 ^ m∧x+d * 2 ^ m < 18446744073709551616:=by
 rcases (show r=0∨r=1 by omega) with h|h
 ·rw [hx h]
  subst hm h
  simp
  omega
 ·subst hm h
  have h1:d * 2 ^ (32 * 1) < 18446744073709551616:=by simp;omega
  refine ⟨h1,?_,by simp;omega⟩
  rw [Nat.or_comm,show d * 2 ^ (32 * 1)=2 ^ 32 * d from by rw [Nat.mul_comm],← Nat.two_pow_add_eq_or_of_lt hx1,Nat.add_comm]
theorem lm_part {V k:Nat}:(k % 2=0→lm (V % 2 ^ (32 * k)) (k / 2)=0)∧lm (V % 2 ^ (32 * k)) (k / 2) < 4294967296:=by
 rw [lm_digs,dig_mod,dig_mod,if_neg (show ¬ 2 * (k / 2)+1 < k by omega)]
 constructor
 ·intro h
  rw [if_neg z0c]
 ·have:=dig_lt V (2 * (k / 2))
  split <;> omega
theorem nat_cells {w wr:World} {V k q z:Nat} (hq:q=k / 2) (hz:z=lm (V % 2 ^ (32 * (k+1))) q)
  (h:∀ j,j < 4→wr.cell? ⟨w.heap.size+1,j,none⟩=some (.int .u64 (lm (V % 2 ^ (32 * k)) j:Nat))∧wr.frozen? ⟨w.heap.size+1,j,none⟩=false∧wr.cell? ⟨w.heap.size,j,none⟩=some (.int .u64 0)∧wr.frozen? ⟨w.heap.size,j,none⟩=false) :
  ∀ j,j < 4→(wr.drew.setCell ⟨w.heap.size+1,q,none⟩ (.int .u64 (z:Int))).cell? ⟨w.heap.size+1,j,none⟩=some (.int .u64 (lm (V % 2 ^ (32 * (k+1))) j:Nat))∧(wr.drew.setCell ⟨w.heap.size+1,q,none⟩ (.int .u64 (z:Int))).frozen? ⟨w.heap.size+1,j,none⟩=false∧(wr.drew.setCell ⟨w.heap.size+1,q,none⟩ (.int .u64 (z:Int))).cell? ⟨w.heap.size,j,none⟩=some (.int .u64 0)∧(wr.drew.setCell ⟨w.heap.size+1,q,none⟩ (.int .u64 (z:Int))).frozen? ⟨w.heap.size,j,none⟩=false:=by
 intro j hj
 obtain ⟨h1,h2,h3,h4⟩:=h j hj
 refine ⟨?_,by rw [World.frozen?_setCell];exact h2,?_,by rw [World.frozen?_setCell];exact h4⟩
 ·by_cases c:j=q
  ·subst c
   have h5:wr.drew.cell? ⟨w.heap.size+1,j,none⟩=some (.int .u64 (lm (V % 2 ^ (32 * k)) j:Nat)):=h1
   rw [World.cell?_setCell_same _ _ _ h5,hz]
  ·have hne:(⟨w.heap.size+1,q,none⟩:Addr)≠⟨w.heap.size+1,j,none⟩:=fun h=>c (by injection h with _ h2 _;exact h2.symm)
   rw [World.cell?_setCell_other _ _ _ _ hne,lm_digit,if_neg z0c]
   exact h1
 ·have hne:(⟨w.heap.size+1,q,none⟩:Addr)≠⟨w.heap.size,j,none⟩:=by
   intro h
   simp at h
  rw [World.cell?_setCell_other _ _ _ _ hne]
  exact h3
theorem DNat_walk (v0:Value) (n0 n V:Nat) (w:World) (h0:DN w v0 n0 V) (hn:n=dl V) (h8:n≤8) :
  Calls Tryz.prog 132 #[v0] w fun e w'=>e=.returned (.tuple #[.agg #[.int .u64 (lm (V) 0:Nat),.int .u64 (lm (V) 1:Nat),.int .u64 (lm (V) 2:Nat),.int .u64 (lm (V) 3:Nat)],.bool true])∧Below w.heap.size w w':=by
 have H0:=Lib.hid h0
 have HN:=Lib.hid hn
 clear h0 hn
 go_enter Tryz.func132,Tryz.ntmps132
 repeat any_goals (first|(go_at_call 125;refine (trim_all v0 n0 V _ ((H0.out.alloc _).alloc _)).mono ?_;rintro e w' ⟨⟨v,rfl,hv⟩,rfl⟩;have hv2:=hv w H0.out;clear hv;obtain ⟨hlt,_,eo,cap,rfl,hcap,_,hcell⟩:=hv2;rw [← HN.out] at hlt hcap hcell ⊢;have HC:=Lib.hid (And.intro hlt hcell);clear hlt hcell)|go_skip|go_guarded|go_step|go_upon|(dsimp only []))
 go_loopw [6] (fun i wr=>∃ k:Nat,k≤n∧i=.int .i64 k∧(∀ j,j < 4→wr.cell? ⟨w.heap.size+1,j,none⟩=some (.int .u64 (lm (V % 2 ^ (32 * k)) j:Nat))∧wr.frozen? ⟨w.heap.size+1,j,none⟩=false∧wr.cell? ⟨w.heap.size,j,none⟩=some (.int .u64 0)∧wr.frozen? ⟨w.heap.size,j,none⟩=false)∧Below w.heap.size w wr)
  (fun i _=>n - (intOf i).toNat)
 case atStart=>
  refine ⟨0,by omega,rfl,?_,zb2⟩
  intro j hj
  rw [Nat.mul_zero,Nat.pow_zero,Nat.mod_one,lm_zero]
  match j,hj with
  | 0,_=>simp [go_sem]
  | 1,_=>simp [go_sem]
  | 2,_=>simp [go_sem]
  | 3,_=>simp [go_sem]
 case round=>
  obtain ⟨k,hk,rfl,hcells,hbel⟩:=hrel
  by_cases hkn:k < n
  ·obtain ⟨b,rfl,hbw,hce⟩:=HC.out.2 z0c
   obtain ⟨q,hq⟩:∃ q,q=k / 2:=⟨_,rfl⟩
   obtain ⟨r,hr⟩:∃ r,r=k % 2:=⟨_,rfl⟩
   have eq:(k:Int) / 2=(q:Int):=by omega
   have er:(k:Int) % 2=(r:Int):=by omega
   have hq4:q < 4:=by omega
   have hr2:r≤1:=by omega
   obtain ⟨c1,c2,c3,c4⟩:=hcells q hq4
   have hcd:=(hbel.cell (p:=⟨b,k,none⟩) hbw).trans (hce k hkn)
   obtain ⟨x,hx⟩:∃ z,z=lm (V % 2 ^ (32 * k)) q:=⟨_,rfl⟩
   obtain ⟨d,hd⟩:∃ z,z=dig V k:=⟨_,rfl⟩
   rw [← hx] at c1
   rw [← hd] at hcd
   have hx4:x < 18446744073709551616:=hx ▸ lm_lt _ _
   have hd4:d < 4294967296:=hd ▸ dig_lt _ _
   have G:=Lib.hid (And.intro hcells (And.intro hbel (And.intro hx (And.intro hd (And.intro hq hr)))))
   clear hcells hbel hx hd hce hq hr c3 c4
   have w1:IntKind.i64.wrap (q:Int)=(q:Int):=by rw [IntKind.wrap_i64];omega
   have w2:IntKind.i64.wrap (r:Int)=(r:Int):=by rw [IntKind.wrap_i64];omega
   obtain ⟨m,hm⟩:∃ m,m=32 * r:=⟨_,rfl⟩
   have w3:IntKind.i64.wrap (32 * (r:Int))=(m:Int):=by rw [IntKind.wrap_i64];omega
   have w4:IntKind.u64.wrap (m:Int)=(m:Int):=by rw [IntKind.wrap_u64];omega
   have w5:IntKind.u64.wrap (d:Int)=(d:Int):=by rw [IntKind.wrap_u64];omega
   have w0:IntKind.i64.wrap (k:Int)=(k:Int):=by rw [IntKind.wrap_i64];omega
   have i1:(q:Int) < 4:=by omega
   have i2:(0:Int)≤(q:Int):=by omega
   have i3:(k:Int) < (n:Int):=by omega
   have i4:(0:Int)≤(k:Int):=by omega
   have i5:(q:Int).toNat=q:=rfl
   have i6:(k:Int).toNat=k:=rfl
   have hxx:(r=0→x=0)∧x < 4294967296:=by
    have hh:=@lm_part V k
    rw [G.out.2.2.1,G.out.2.2.2.2.1,G.out.2.2.2.2.2]
    exact hh
   obtain ⟨g1,g2,g3⟩:=or_digit hr2 hm hd4 hxx.1 hxx.2
   obtain ⟨t,ht⟩:∃ t,t=d * 2 ^ m:=⟨_,rfl⟩
   obtain ⟨z,hz⟩:∃ z,z=x+t:=⟨_,rfl⟩
   have e1:(k:Int).tmod 2=(r:Int):=by rw [Int.tmod_eq_emod_of_nonneg z0c];exact er
   have e2:min m 64=m:=by omega
   have e3:IntKind.u64.wrap ((d:Int) * 2 ^ m)=(t:Int):=by
    rw [show ((d:Int) * 2 ^ m)=((d * 2 ^ m:Nat):Int) from by simp,← ht]
    exact wrap64u (by rw [ht];exact g1)
   have e4:bits BinOp.or IntKind.u64 (x:Int) (t:Int)=(z:Int):=by
    rw [u64_or_nat x t hx4 (by rw [ht];exact g1),ht,g2,hz,ht]
   have hzl:z=lm (V % 2 ^ (32 * (k+1))) q:=by
    rw [lm_digit,if_pos G.out.2.2.2.2.1,← G.out.2.2.1,← G.out.2.2.2.1,← G.out.2.2.2.2.2,hz,ht,hm]
   have GZ:=Lib.hid (nat_cells G.out.2.2.2.2.1 hzl G.out.1)
   clear hm g1 g2 g3 ht hz hzl hxx
   repeat any_goals (first|go_skip|go_guarded|go_step|go_upon|(simp only [];done))
   (refine still_tail 17 z0a z0a ?_;simp only [List.take_succ_cons,List.take_zero,List.drop_succ_cons,List.drop_zero];(repeat still_step);refine wpStill_nil ?_)
   repeat any_goals (first|go_skip|go_guarded|go_step|go_upon|(simp only [];done))
   go_roundw
   case rel=>exact ⟨k+1,by omega,by go_num,GZ.out,(G.out.2.1.drew).setCell (by show w.heap.size≤w.heap.size+1;omega) _⟩
   case measure=>simp [intOf];omega
  ·have hkn2:k=n:=by omega
   subst hkn2
   have he:V % 2 ^ (32 * k)=V:=Nat.mod_eq_of_lt HC.out.1
   rw [he] at hcells
   obtain ⟨a0,f0,b0,g0⟩:=hcells 0 z0c
   obtain ⟨a1,f1,b1,g1⟩:=hcells 1 z0c
   obtain ⟨a2,f2,b2,g2⟩:=hcells 2 z0c
   obtain ⟨a3,f3,b3,g3⟩:=hcells 3 z0c
   clear hcells he
   repeat any_goals (first|go_skip|go_guarded|go_step|go_upon|(simp only [];done))
   refine bodyPost_ret (v:=.tuple #[.agg #[.int .u64 (lm (V) 0:Nat),.int .u64 (lm (V) 1:Nat),.int .u64 (lm (V) 2:Nat),.int .u64 (lm (V) 3:Nat)],.bool true]) ?_ rfl ⟨rfl,(((hbel.setCell (Nat.le_refl _) _).setCell (Nat.le_refl _) _).setCell (Nat.le_refl _) _).setCell (Nat.le_refl _) _⟩
   simp [results,Tryz.results132,go_sem,b0,b1,b2,b3]
theorem DNat_no (v0:Value) (n0 n V:Nat) (w:World) (h0:DN w v0 n0 V) (hn:n=dl V) (h8:8 < n) :
  Calls Tryz.prog 132 #[v0] w fun e w'=>e=.returned (.tuple #[.agg #[.int .u64 0,.int .u64 0,.int .u64 0,.int .u64 0],.bool false])∧Below w.heap.size w w':=by
 have H0:=Lib.hid h0
 have HN:=Lib.hid hn
 clear h0 hn
 go_enter Tryz.func132,Tryz.ntmps132
 repeat any_goals (first|(go_at_call 125;refine (trim_all v0 n0 V _ ((H0.out.alloc _).alloc _)).mono ?_;rintro e w' ⟨⟨v,rfl,hv⟩,rfl⟩;have hv2:=hv w H0.out;clear hv;obtain ⟨hlt,_,eo,cap,rfl,hcap,_,hcell⟩:=hv2;rw [← HN.out] at hlt hcap hcell ⊢;clear hlt hcell)|go_skip|go_guarded|go_step|go_upon|(dsimp only []))
 refine bodyPost_ret (v:=.tuple #[.agg #[.int .u64 0,.int .u64 0,.int .u64 0,.int .u64 0],.bool false]) ?_ rfl ⟨rfl,zb2⟩
 simp [results,Tryz.results132,go_sem]
theorem DNat_any (v:Value) (n V:Nat) (w:World) (h:DN w v n V) :
  Calls Tryz.prog 132 #[v] w fun e w'=>e=.returned (.tuple #[.agg #[.int .u64 (lm (if V < 2 ^ 256 then V else 0) 0:Nat),.int .u64 (lm (if V < 2 ^ 256 then V else 0) 1:Nat),.int .u64 (lm (if V < 2 ^ 256 then V else 0) 2:Nat),.int .u64 (lm (if V < 2 ^ 256 then V else 0) 3:Nat)],.bool (decide (V < 2 ^ 256))])∧Below w.heap.size w w':=by
 have hd:=dl_le_iff V 8
 by_cases c:V < 2 ^ 256
 ·rw [if_pos c,decide_eq_true c]
  exact DNat_walk v n (dl V) V w h rfl (hd.2 c)
 ·rw [if_neg c,decide_eq_false c,lm_zero,lm_zero,lm_zero,lm_zero]
  exact DNat_no v n (dl V) V w h rfl (by
   have:¬ dl V≤8:=fun h=>c (hd.1 h)
   omega)
def lenOf:Value→Nat
 | .slice _ n _=>n
 | _=>0
theorem own_form {w:World} {B e n:Nat} {v:Value} {xs:List Value} (h:w.ownsRow B e 1 v n xs) (hn:0 < n):∃ g cap,v=.slice (some ⟨g,0,none⟩) n cap∧B≤g:=by
 rcases h.2 with ⟨_,h0⟩|⟨g,cap,_,h1,h2,_⟩
 ·omega
 ·exact ⟨g,cap,h1,h2⟩
theorem own_len {w:World} {B e n:Nat} {v:Value} {xs:List Value} (h:w.ownsRow B e 1 v n xs):∃ ao cap,v=.slice ao n cap:=by
 rcases h.2 with ⟨h1,h0⟩|⟨g,cap,_,h1,h2,_⟩
 ·subst h0;exact ⟨none,0,h1⟩
 ·exact ⟨_,cap,h1⟩
theorem digl_snoc (P m:Nat) (h:P < 2 ^ (32 * m)):digl P m ++ [Value.int .u32 0]=digl P (m+1):=by
 unfold digl
 rw [List.range_succ]
 simp [dig_zero h (Nat.le_refl m)]
theorem shr_bit (W j:Nat):W % 2 ^ (j+1)=W % 2 ^ j+W / 2 ^ j % 2 * 2 ^ j:=by
 rw [Nat.pow_succ,Nat.mod_mul,Nat.mul_comm (2 ^ j)]
theorem sd_bit {P j:Nat} (h:P < 2 ^ j):dig P (j / 32) < 2 ^ (j % 32)∧dig P (j / 32)+2 ^ (j % 32) < 4294967296∧sd P (j / 32) (dig P (j / 32)+2 ^ (j % 32))=P+2 ^ j:=by
 have hr:j % 32 < 32:=Nat.mod_lt _ z0e
 have hj:j=32 * (j / 32)+j % 32:=by omega
 have h1:P / 2 ^ (32 * (j / 32)) < 2 ^ (j % 32):=by
  rw [Nat.div_lt_iff_lt_mul (Nat.two_pow_pos _),← Nat.pow_add,Nat.add_comm,← hj]
  exact h
 have h2:(2:Nat) ^ (j % 32)≤2147483648:=Nat.le_trans (Nat.pow_le_pow_right z0e (show j % 32≤31 by omega)) z0e
 have h3:dig P (j / 32) < 2 ^ (j % 32):=Nat.lt_of_le_of_lt (Nat.mod_le _ _) h1
 refine ⟨h3,by omega,?_⟩
 have h4:=sd_add P (j / 32) (dig P (j / 32)+2 ^ (j % 32))
 rw [Nat.add_mul,← Nat.pow_add,Nat.add_comm (j % 32),← hj] at h4
 omega
theorem row_store2 {w wr:World} {n P q lo g cp:Nat} (hown:wr.ownsRow w.heap.size 140 1 (.slice (some ⟨g,0,none⟩) n cp) n (digl P n)) (hg:w.heap.size≤g) (hb:Below w.heap.size w wr) (hlo:lo < 4294967296) :
  (wr.setCell ⟨g,q,none⟩ (.int .u32 (lo:Int))).ownsRow w.heap.size 140 1 (.slice (some ⟨g,0,none⟩) n cp) n (digl (sd P q lo) n)∧Below w.heap.size w (wr.setCell ⟨g,q,none⟩ (.int .u32 (lo:Int))):=by
 obtain ⟨o1,o2⟩:=hown.stored q (.int .u32 (lo:Int))
 rw [digl_set hlo] at o1
 exact ⟨o1,hb.grown o2 hb.size (fun k h=>by cases h;exact hg)⟩
theorem one_cell {w:World} {B:Nat} {x:Value} (c0:w.cell? ⟨B,0,none⟩=some x):∀ j u,[x][j]? = some u→w.cell? ((⟨B,0,none⟩:Addr).add j)=some u:=by
 intro j u hj
 match j,hj with
 | 0,hj=>simp at hj;subst hj;exact c0
theorem one_one {x:Int}:∀ u ∈ [Value.int .u32 x],u.oneCell'=true:=by
 intro u hu
 simp at hu
 subst hu
 rfl
theorem or_bit {x r:Nat} (h:x < 2 ^ r):x ||| 2 ^ r=x+2 ^ r:=by
 rw [Nat.or_comm]
 have:=Nat.two_pow_add_eq_or_of_lt h 1
 rw [Nat.mul_one] at this
 omega
theorem Shift_walk (do_:Option Addr) (n cap V s:Nat) (w:World) (h:DN w (.slice do_ n cap) n V) (hn:n≤1000000) (hs:0 < s) (hs2:s≤1000000) :
  Calls Tryz.prog 128 #[.slice do_ n cap,.int .i64 (-(s:Int))] w fun e w'=>∃ v,e=.returned v∧IsD w' v (V / 2 ^ s)∧Below w.heap.size w w':=by
 obtain ⟨i0,hi,hz0,hz1,hz2⟩:=info_parts infoU32
 have H:=Lib.hid h
 clear h
 go_enter Tryz.func128,Tryz.ntmps128
 repeat any_goals (first|go_skip|go_guarded|go_step|go_upon|(simp only [];done))
 rw [decide_eq_false (show ¬ s=0 by omega)]
 go_loopw [5,6] (fun v i wr=>∃ j:Nat,j≤32 * n∧i=.int .i64 ((s:Int)+j)∧wr.ownsRow w.heap.size 140 1 v ((j+31) / 32) (digl (V / 2 ^ s % 2 ^ j) ((j+31) / 32))∧(j=0∨s+j≤32 * n)∧Below w.heap.size w wr)
  (fun _ i _=>32 * n+s - (intOf i).toNat)
 case atStart=>
  refine ⟨0,by omega,by simp,?_,.inl rfl,Below.refl _ _⟩
  exact World.ownsRow_nil _ _ _ _
 case round=>
  obtain ⟨j,hj,rfl,hown,hjn,hbel⟩:=hrel
  obtain ⟨m,hm⟩:∃ m,m=(j+31) / 32:=⟨_,rfl⟩
  obtain ⟨q,hq⟩:∃ q,q=j / 32:=⟨_,rfl⟩
  obtain ⟨P,hP⟩:∃ P,P=V / 2 ^ s % 2 ^ j:=⟨_,rfl⟩
  rw [← hm,← hP] at hown
  have hPj:P < 2 ^ j:=by rw [hP];exact Nat.mod_lt _ (Nat.two_pow_pos _)
  have eq:(j:Int) / 32=(q:Int):=by omega
  have hmq:m=q∨m=q+1:=by omega
  have hm2:m≤1000000:=by omega
  have hq2:q≤1000000:=by omega
  have ej:(s:Int)+(j:Int) + -(s:Int)=(j:Int):=by omega
  obtain ⟨ao,cp,rfl⟩:=own_len hown
  have HM:=Lib.hid (And.intro hm (And.intro hq (And.intro hP hPj)))
  have HJ:=Lib.hid hjn
  clear hm hq hP hPj hjn
  by_cases hlt:s+j < n * 32
  ·repeat any_goals (first|go_skip|go_guarded|go_step|go_upon|(simp only [];done))
   rw [decide_eq_true (show (s:Int)+(j:Int) < (n:Int) * 32 by omega)]
   go_loopw [5] (fun v wr=>∃ m':Nat,((m'=q∧P < 2 ^ (32 * q))∨m'=q+1)∧wr.ownsRow w.heap.size 140 1 v m' (digl P m')∧Below w.heap.size w wr)
    (fun v _=>q+1 - lenOf v)
   case atStart=>
    refine ⟨m,?_,hown,hbel⟩
    rcases hmq with h|h
    ·left
     obtain ⟨h1,h2,_,h4⟩:=HM.out
     have h5:j=32 * q:=by omega
     rw [h5] at h4
     exact ⟨h,h4⟩
    ·exact .inr h
   case round=>
    clear hown hbel hmq hm2
    obtain ⟨m',hmq',hown,hbel⟩:=hrel
    obtain ⟨ao',cp',rfl⟩:=own_len hown
    by_cases hmm:m'=q
    ·subst hmm
     have b1:m'+1≤maxLen:=by unfold maxLen;omega
     have b2:(m'+1) * 4≤140737488355328:=by omega
     have hsz:=hbel.size
     repeat any_goals (first|(at_builtin;refine wpList_append_own _ rfl (.tmp 31) (.tmp 32) 130 rfl w.heap.size 140 i0 (.int .u32 0) 1 4 Tryz.underlying130 hi hz0 hz1 hz2 rfl z0e _ _ _ rfl (hown.alloc _) ⟨wr.heap.size,0,none⟩ 1 1 [.int .u32 0] rfl rfl (one_cell z0f) one_one b1 b2 z0a1 ?_;intro v' w1 hown' hgrow _)|go_skip|go_guarded|go_step|go_upon|(dsimp only []))
     go_roundw
     case rel=>
      refine ⟨m'+1,.inr rfl,?_,(hbel.alloc hsz _).grown hgrow z0a1 (fun k h=>(hown.lt k h).1)⟩
      have hPq:P < 2 ^ (32 * m'):=by
       rcases hmq' with h|h
       ·exact h.2
       ·omega
      rw [← digl_snoc P m' hPq]
      exact hown'
     case measure=>
      obtain ⟨ao2,cp2,rfl⟩:=own_len hown'
      simp [lenOf]
    ·have hm1:m'=q+1:=by omega
     subst hm1
     obtain ⟨g,cp2,hv,hg⟩:=own_form hown z0c
     obtain ⟨rfl,_,rfl⟩:ao'=some ⟨g,0,none⟩∧True∧cp'=cp2:=by simp at hv;exact ⟨hv.1,trivial,hv.2⟩
     have hD:=H.out.below hbel
     obtain ⟨g1,g2,g3,g4⟩:=HM.out
     have hW:V / 2 ^ s % 2 ^ (j+1)=P+V / 2 ^ (s+j) % 2 * 2 ^ j:=by
      rw [shr_bit,← g3,Nat.pow_add,← Nat.div_div_eq_div_mul]
     have hbI:bitI V ((s:Int)+(j:Int))=(V / 2 ^ (s+j) % 2 == 1):=by
      unfold bitI
      rw [decide_eq_true z0c,Bool.true_and,show ((s:Int)+(j:Int)).toNat=s+j from by omega]
     have he1:(j+1+31) / 32=q+1:=by omega
     have hfin:j+1=0∨s+(j+1)≤32 * n:=.inr z0c
     have hj1:j+1≤32 * n:=by omega
     have FH:=Lib.hid (And.intro hW (And.intro he1 (And.intro hfin (And.intro hbI hj1))))
     have BH:=Lib.hid hmq'
     have sb:=sd_bit g4
     rw [← g2] at sb
     obtain ⟨x,hx⟩:∃ x,x=dig P q:=⟨_,rfl⟩
     obtain ⟨r,hr⟩:∃ r,r=j % 32:=⟨_,rfl⟩
     rw [← hx,← hr] at sb
     have cw:=hown.cellAt q z0c
     rw [digl_get z0c,← hx] at cw
     have fw:=hown.frozenAt q
     obtain ⟨s1,s2,s3⟩:=sb
     obtain ⟨p2,hp2⟩:∃ p2,p2=2 ^ r:=⟨_,rfl⟩
     have er:(j:Int) % 32=(r:Int):=by omega
     have ex:IntKind.u32.wrap (2 ^ r)=(p2:Int):=by
      rw [show (2 ^ r:Int)=((2 ^ r:Nat):Int) from by simp,IntKind.wrap_u32,hp2]
      have h:∀ z:Nat,z < 4294967296→(z:Int) % 4294967296=z:=fun z hz=>by omega
      exact h _ z0c
     have eo:bits BinOp.or IntKind.u32 (x:Int) (p2:Int)=((x+p2:Nat):Int):=by
      rw [u32_or_nat x p2 z0c (by rw [hp2];omega),hp2,or_bit s1]
     obtain ⟨z,hz⟩:∃ z,z=x+p2:=⟨_,rfl⟩
     rw [← hz] at eo
     have SH:=Lib.hid (And.intro hz (And.intro hp2 (And.intro s2 s3)))
     have hr32:r < 32:=by omega
     clear hW hbI he1 hfin hj1 s1 s2 s3 hp2 hz hr hx g1 g2 g3 g4 hmq'
     cases hbit:bitI V ((s:Int)+(j:Int)) with
     | false=>
      repeat any_goals (first|(go_at_call 126;refine (Bit_any _ _ V _ _ hD z0c z0c).mono ?_;rintro e w' ⟨rfl,rfl⟩;rw [hbit])|go_skip|go_guarded|go_step|go_upon|(dsimp only []))
      go_roundw
      case rel=>
       obtain ⟨f1,f2,f3,f4,f5⟩:=FH.out
       refine ⟨j+1,f5,by go_num,?_,f3,hbel⟩
       rw [f4] at hbit
       have h0:V / 2 ^ (s+j) % 2=0:=by
        have h1:V / 2 ^ (s+j) % 2 < 2:=Nat.mod_lt _ z0e
        generalize V / 2 ^ (s+j) % 2=y at *
        have:y≠1:=by simpa using hbit
        omega
       rw [f1,f2,h0,Nat.zero_mul,Nat.add_zero]
       exact hown
      case measure=>simp [intOf];omega
     | true=>
      repeat any_goals (first|(go_at_call 126;refine (Bit_any _ _ V _ _ hD z0c z0c).mono ?_;rintro e w' ⟨rfl,rfl⟩;rw [hbit])|go_skip|go_guarded|go_step|go_upon|(dsimp only []))
      go_roundw
      case rel=>
       obtain ⟨f1,f2,f3,f4,f5⟩:=FH.out
       obtain ⟨z1,z2,z3,z4⟩:=SH.out
       have hzl:z < 4294967296:=by rw [z1,z2];exact z3
       obtain ⟨r1,r2⟩:=row_store2 (q:=q) hown hg hbel hzl
       refine ⟨j+1,f5,by go_num,?_,f3,r2⟩
       rw [f4] at hbit
       have h0:V / 2 ^ (s+j) % 2=1:=by simpa using hbit
       rw [f1,f2,h0,Nat.one_mul]
       rw [z1,z2,z4] at r1
       rw [z1,z2]
       exact r1
      case measure=>simp [intOf];omega
  ·obtain ⟨g1,g2,g3,g4⟩:=HM.out
   have hlt':¬ (s:Int)+(j:Int) < (n:Int) * 32:=by omega
   have hPV:P=V / 2 ^ s:=by
    rw [g3]
    apply Nat.mod_eq_of_lt
    rw [Nat.div_lt_iff_lt_mul (Nat.two_pow_pos _),← Nat.pow_add]
    refine Nat.lt_of_lt_of_le H.out.1 (Nat.pow_le_pow_right z0e ?_)
    rcases HJ.out with h|h
    ·omega
    ·omega
   have hPm:P < 2 ^ (32 * m):=Nat.lt_of_lt_of_le g4 (Nat.pow_le_pow_right z0e z0c)
   have hD:=DN_own hown hPm z0c
   rw [hPV] at hD
   have DH:=Lib.hid hD
   clear hD hown hPm g1 g2 g3 g4 hPV hlt hmq hm2 hq2
   exact z17zk1
end Go.Proofs.YtfondldmmcmloaaGreatDoor
