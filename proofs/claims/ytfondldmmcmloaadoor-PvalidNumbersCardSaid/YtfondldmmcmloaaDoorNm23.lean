/- The law PvalidNumbers: any number of 64 bits with or without a sign, any type of whole numbers. -/
import Derived.Test.YtfondldmmcmloaaDoorPdCA
import Derived.Deep.CutBlock
import Derived.Deep.DeepCutAuto
import Derived.Deep.RegionHeld3
namespace Go.Proofs.YtfondldmmcmloaaDoor
open Go Go.RowKit
/-- the one message that a text gives, by its field's type -/
def numL (t:ByteArray):List MB:=[⟨⟨#[77]⟩,[⟨⟨#[120]⟩,t,1,false,false,false⟩],[],[]⟩]
theorem nm_may (a b:Nat) (neg:Bool) (V:Nat) (h:mayI neg V=true):(recX a b (flatV 3 neg V 0 ⟨#[]⟩)).may=0:=by
  have hr:(recX a b (flatV 3 neg V 0 ⟨#[]⟩)).right=true:=by
    have h1:(flatV 3 neg V 0 ⟨#[]⟩).right=true:=by
      simp [flatV,VT.right,midB,eqB,bareNeg,bareV,bareB,bareT,anyN,h]
    unfold recX
    simp only [VT.right,anyN,h1]
    rfl
  have hm:(recX a b (flatV 3 neg V 0 ⟨#[]⟩)).may=if (recX a b (flatV 3 neg V 0 ⟨#[]⟩)).right=true then 0 else 1:=by kernel_rfl
  rw [hm,if_pos hr]
theorem rng_is (neg:Bool) (V:Nat) (lo hi:Int):rngT 3 neg V lo hi=(decide (lo≤zI neg V) && decide (zI neg V≤hi)):=by
  unfold rngT
  rw [decide_eq_true rfl,Bool.true_and]
theorem rec_of {w:World} {g h:Nat} {neg:Bool} {V:Nat} (hV:V < 2 ^ 256) (hg:g < w.heap.size) (hh:h < w.heap.size) (R:RBx w g (.int .i64 3) (.bool neg) (.int .u64 (lm V 0:Nat)) (.int .u64 (lm V 1:Nat)) (.int .u64 (lm V 2:Nat)) (.int .u64 (lm V 3:Nat)) (.int .u64 0) (.string ⟨#[]⟩) (.slice none 0 0) (.slice none 0 0)) (hk:w.cell? ⟨h,0,none⟩=some (.string ⟨#[120]⟩)):(recX g h (flatV 3 neg V 0 ⟨#[]⟩)).In w:=by
  refine rec_in (flat_in _ _ _ _ _ _ ⟨by decide,by decide,hV,by decide,Nat.zero_le _,Nat.le_refl _,Nat.zero_le _,Nat.le_refl _,Nat.zero_le _⟩) hg hh (fun j hj=>?_) hk
  obtain ⟨c0,c1,c2,c3,c4,c5,c6,c7,c8,c9⟩:=R.all
  match j with
  | 0=>exact c0
  | 1=>exact c1
  | 2=>exact c2
  | 3=>exact c3
  | 4=>exact c4
  | 5=>exact c5
  | 6=>exact c6
  | 7=>exact c7
  | 8=>exact c8
  | 9=>exact c9
  | j+10=>omega
set_option maxRecDepth 20000 in
theorem OfI_neg (v:Int) (u:Int) (hv:v < 0) (e:IntKind.u64.wrap (IntKind.u64.wrap (wrap64 (-wrap64 (v+1)))+1)=u) (w:World) :
    Calls Tryd.prog 6 #[.int .i64 v] w fun e w'=>e=.returned (.agg #[.bool true,.int .u64 u,.int .u64 0,.int .u64 0,.int .u64 0])∧∃ O,w'=w.alloc O:=by
  go_enter Tryd.func6,Tryd.ntmps6
  repeat any_goals (first|go_skip|go_guarded|go_step|go_upon|(simp only [];done))
  refine bodyPost_ret (v:=.agg #[.bool true,.int .u64 u,.int .u64 0,.int .u64 0,.int .u64 0]) ?_ rfl ⟨rfl,⟨_,rfl⟩⟩
  simp [results,Tryd.results6,go_sem, *]
set_option maxRecDepth 20000 in
theorem OfI_pos (v:Int) (u:Int) (hv:0≤v) (e:IntKind.u64.wrap v=u) (w:World) :
    Calls Tryd.prog 6 #[.int .i64 v] w fun e w'=>e=.returned (.agg #[.bool false,.int .u64 u,.int .u64 0,.int .u64 0,.int .u64 0])∧∃ O,w'=w.alloc O:=by
  go_enter Tryd.func6,Tryd.ntmps6
  repeat any_goals (first|go_skip|go_guarded|go_step|go_upon|(simp only [];done))
  refine bodyPost_ret (v:=.agg #[.bool false,.int .u64 u,.int .u64 0,.int .u64 0,.int .u64 0]) ?_ rfl ⟨rfl,⟨_,rfl⟩⟩
  simp [results,Tryd.results6,go_sem, *]
theorem OfInt_at (v:Int) (h0 : -9223372036854775808≤v) (h1:v < 9223372036854775808) (w:World) :
    Calls Tryd.prog 6 #[.int .i64 v] w fun e w'=>e=.returned (.agg #[.bool (sg v ),.int .u64 (lm ( ab v) 0:Nat),.int .u64 (lm ( ab v) 1:Nat),.int .u64 (lm ( ab v) 2:Nat),.int .u64 (lm ( ab v) 3:Nat)])∧∃ O,w'=w.alloc O:=by
  have hu:ab v < 18446744073709551616:=by unfold ab;omega
  obtain ⟨q0,q1,q2,q3⟩:=lm_small hu
  rw [q0,q1,q2,q3]
  by_cases c:v < 0
  · rw [show sg v=true from decide_eq_true c]
    refine OfI_neg v _ c ?_ w
    rw [IntKind.wrap_u64,IntKind.wrap_u64]
    simp only [wrap64]
    unfold ab
    omega
  · rw [show sg v=false from decide_eq_false c]
    refine OfI_pos v _ (by omega) ?_ w
    rw [IntKind.wrap_u64]
    unfold ab
    omega
set_option maxRecDepth 20000 in
theorem OfUint_at (u:Nat) (hu:u < 18446744073709551616) (w:World) :
    Calls Tryd.prog 7 #[.int .u64 (u:Int)] w fun e w'=>e=.returned (.agg #[.bool (false ),.int .u64 (lm ( u) 0:Nat),.int .u64 (lm ( u) 1:Nat),.int .u64 (lm ( u) 2:Nat),.int .u64 (lm ( u) 3:Nat)])∧∃ O,w'=w.alloc O:=by
  obtain ⟨q0,q1,q2,q3⟩:=lm_small hu
  rw [q0,q1,q2,q3]
  generalize (u:Int)=u
  go_enter Tryd.func7,Tryd.ntmps7
  repeat any_goals (first|go_skip|go_guarded|go_step|go_upon|(simp only [];done))
  refine bodyPost_ret (v:=.agg #[.bool false,.int .u64 u,.int .u64 0,.int .u64 0,.int .u64 0]) ?_ rfl ⟨rfl,⟨_,rfl⟩⟩
  simp [results,Tryd.results7,go_sem, *]
theorem nm_read0:loadR ⟨#[115,121,110,116,97,120,32,61,32,34,112,114,111,116,111,51,34,59,32,109,101,115,115,97,103,101,32,77,32,123,32,105,110,116,51,50,32,120,32,61,32,49,59,32,125]⟩=some (numL ⟨#[105,110,116,51,50]⟩):=by kernel_rfl
theorem nm_check0 (A:Nat→Ad6):checkB (pmsOf (numL ⟨#[105,110,116,51,50]⟩) A) 1=true:=by kernel_rfl
theorem nm_ok0 (A:Nat→Ad6) (a b:Nat) (neg:Bool) (V:Nat):(okT (pmsOf (numL ⟨#[105,110,116,51,50]⟩) A) 1 (recX a b (flatV 3 neg V 0 ⟨#[]⟩))).msg (pmsOf (numL ⟨#[105,110,116,51,50]⟩) A 0) = !!(rngT 3 neg V (-2147483648) 2147483647):=by kernel_rfl
theorem nm_valid0 (A:Nat→Ad6) (a b:Nat) (neg:Bool) (V:Nat) (h:mayI neg V=true):validB (pmsOf (numL ⟨#[105,110,116,51,50]⟩) A) 1 (recX a b (flatV 3 neg V 0 ⟨#[]⟩))=(decide ((-2147483648:Int)≤zI neg V) && decide (zI neg V≤2147483647)):=by
  unfold validB
  rw [nm_check0,nm_may a b neg V h,nm_ok0,Bool.not_not,rng_is]
  rfl
theorem nm_read1:loadR ⟨#[115,121,110,116,97,120,32,61,32,34,112,114,111,116,111,51,34,59,32,109,101,115,115,97,103,101,32,77,32,123,32,115,105,110,116,51,50,32,120,32,61,32,49,59,32,125]⟩=some (numL ⟨#[115,105,110,116,51,50]⟩):=by kernel_rfl
theorem nm_check1 (A:Nat→Ad6):checkB (pmsOf (numL ⟨#[115,105,110,116,51,50]⟩) A) 1=true:=by kernel_rfl
theorem nm_ok1 (A:Nat→Ad6) (a b:Nat) (neg:Bool) (V:Nat):(okT (pmsOf (numL ⟨#[115,105,110,116,51,50]⟩) A) 1 (recX a b (flatV 3 neg V 0 ⟨#[]⟩))).msg (pmsOf (numL ⟨#[115,105,110,116,51,50]⟩) A 0) = !!(rngT 3 neg V (-2147483648) 2147483647):=by kernel_rfl
theorem nm_valid1 (A:Nat→Ad6) (a b:Nat) (neg:Bool) (V:Nat) (h:mayI neg V=true):validB (pmsOf (numL ⟨#[115,105,110,116,51,50]⟩) A) 1 (recX a b (flatV 3 neg V 0 ⟨#[]⟩))=(decide ((-2147483648:Int)≤zI neg V) && decide (zI neg V≤2147483647)):=by
  unfold validB
  rw [nm_check1,nm_may a b neg V h,nm_ok1,Bool.not_not,rng_is]
  rfl
theorem nm_read2:loadR ⟨#[115,121,110,116,97,120,32,61,32,34,112,114,111,116,111,51,34,59,32,109,101,115,115,97,103,101,32,77,32,123,32,105,110,116,54,52,32,120,32,61,32,49,59,32,125]⟩=some (numL ⟨#[105,110,116,54,52]⟩):=by kernel_rfl
theorem nm_check2 (A:Nat→Ad6):checkB (pmsOf (numL ⟨#[105,110,116,54,52]⟩) A) 1=true:=by kernel_rfl
theorem nm_ok2 (A:Nat→Ad6) (a b:Nat) (neg:Bool) (V:Nat):(okT (pmsOf (numL ⟨#[105,110,116,54,52]⟩) A) 1 (recX a b (flatV 3 neg V 0 ⟨#[]⟩))).msg (pmsOf (numL ⟨#[105,110,116,54,52]⟩) A 0) = !!(rngT 3 neg V (-9223372036854775808) 9223372036854775807):=by kernel_rfl
theorem nm_valid2 (A:Nat→Ad6) (a b:Nat) (neg:Bool) (V:Nat) (h:mayI neg V=true):validB (pmsOf (numL ⟨#[105,110,116,54,52]⟩) A) 1 (recX a b (flatV 3 neg V 0 ⟨#[]⟩))=(decide ((-9223372036854775808:Int)≤zI neg V) && decide (zI neg V≤9223372036854775807)):=by
  unfold validB
  rw [nm_check2,nm_may a b neg V h,nm_ok2,Bool.not_not,rng_is]
  rfl
theorem nm_read3:loadR ⟨#[115,121,110,116,97,120,32,61,32,34,112,114,111,116,111,51,34,59,32,109,101,115,115,97,103,101,32,77,32,123,32,115,105,110,116,54,52,32,120,32,61,32,49,59,32,125]⟩=some (numL ⟨#[115,105,110,116,54,52]⟩):=by kernel_rfl
theorem nm_check3 (A:Nat→Ad6):checkB (pmsOf (numL ⟨#[115,105,110,116,54,52]⟩) A) 1=true:=by kernel_rfl
theorem nm_ok3 (A:Nat→Ad6) (a b:Nat) (neg:Bool) (V:Nat):(okT (pmsOf (numL ⟨#[115,105,110,116,54,52]⟩) A) 1 (recX a b (flatV 3 neg V 0 ⟨#[]⟩))).msg (pmsOf (numL ⟨#[115,105,110,116,54,52]⟩) A 0) = !!(rngT 3 neg V (-9223372036854775808) 9223372036854775807):=by kernel_rfl
theorem nm_valid3 (A:Nat→Ad6) (a b:Nat) (neg:Bool) (V:Nat) (h:mayI neg V=true):validB (pmsOf (numL ⟨#[115,105,110,116,54,52]⟩) A) 1 (recX a b (flatV 3 neg V 0 ⟨#[]⟩))=(decide ((-9223372036854775808:Int)≤zI neg V) && decide (zI neg V≤9223372036854775807)):=by
  unfold validB
  rw [nm_check3,nm_may a b neg V h,nm_ok3,Bool.not_not,rng_is]
  rfl
theorem nm_read4:loadR ⟨#[115,121,110,116,97,120,32,61,32,34,112,114,111,116,111,51,34,59,32,109,101,115,115,97,103,101,32,77,32,123,32,117,105,110,116,51,50,32,120,32,61,32,49,59,32,125]⟩=some (numL ⟨#[117,105,110,116,51,50]⟩):=by kernel_rfl
theorem nm_check4 (A:Nat→Ad6):checkB (pmsOf (numL ⟨#[117,105,110,116,51,50]⟩) A) 1=true:=by kernel_rfl
theorem nm_ok4 (A:Nat→Ad6) (a b:Nat) (neg:Bool) (V:Nat):(okT (pmsOf (numL ⟨#[117,105,110,116,51,50]⟩) A) 1 (recX a b (flatV 3 neg V 0 ⟨#[]⟩))).msg (pmsOf (numL ⟨#[117,105,110,116,51,50]⟩) A 0) = !!(rngT 3 neg V (0) 4294967295):=by kernel_rfl
theorem nm_valid4 (A:Nat→Ad6) (a b:Nat) (neg:Bool) (V:Nat) (h:mayI neg V=true):validB (pmsOf (numL ⟨#[117,105,110,116,51,50]⟩) A) 1 (recX a b (flatV 3 neg V 0 ⟨#[]⟩))=(decide ((0:Int)≤zI neg V) && decide (zI neg V≤4294967295)):=by
  unfold validB
  rw [nm_check4,nm_may a b neg V h,nm_ok4,Bool.not_not,rng_is]
  rfl
theorem nm_read5:loadR ⟨#[115,121,110,116,97,120,32,61,32,34,112,114,111,116,111,51,34,59,32,109,101,115,115,97,103,101,32,77,32,123,32,117,105,110,116,54,52,32,120,32,61,32,49,59,32,125]⟩=some (numL ⟨#[117,105,110,116,54,52]⟩):=by kernel_rfl
theorem nm_check5 (A:Nat→Ad6):checkB (pmsOf (numL ⟨#[117,105,110,116,54,52]⟩) A) 1=true:=by kernel_rfl
theorem nm_ok5 (A:Nat→Ad6) (a b:Nat) (neg:Bool) (V:Nat):(okT (pmsOf (numL ⟨#[117,105,110,116,54,52]⟩) A) 1 (recX a b (flatV 3 neg V 0 ⟨#[]⟩))).msg (pmsOf (numL ⟨#[117,105,110,116,54,52]⟩) A 0) = !!(rngT 3 neg V (0) 18446744073709551615):=by kernel_rfl
theorem nm_valid5 (A:Nat→Ad6) (a b:Nat) (neg:Bool) (V:Nat) (h:mayI neg V=true):validB (pmsOf (numL ⟨#[117,105,110,116,54,52]⟩) A) 1 (recX a b (flatV 3 neg V 0 ⟨#[]⟩))=(decide ((0:Int)≤zI neg V) && decide (zI neg V≤18446744073709551615)):=by
  unfold validB
  rw [nm_check5,nm_may a b neg V h,nm_ok5,Bool.not_not,rng_is]
  rfl
structure NmC0 (w:World) (n u:Int) (nn un:Bool) (nV uV:Nat) (s2:ByteArray) (PV:World→Option Addr→Nat→Prop) (p r:Bool):Prop where
  T:∀ wr:World,Below w.heap.size w wr→Calls Tryd.prog 8 #[] wr fun e w'=>e=.returned (.bool true)∧Below wr.heap.size wr w'
  L:∀ wr:World,Calls Tryd.prog 5 #[.string s2] wr fun e w'=>∃ (a:Option Addr) (c:Nat),e=.returned (.tuple #[.slice a 1 c,.int .i64 0])∧PV w' a c∧Below wr.heap.size wr w'
  pv:∀ (wr wx:World) (a:Option Addr) (c:Nat),PV wr a c→Below wr.heap.size wr wx→PV wx a c
  V:∀ (wx:World) (a:Option Addr) (c g h:Nat),Below w.heap.size w wx→PV wx a c→(recX g h (flatV 3 nn nV 0 ⟨#[]⟩)).In wx→Calls Tryd.prog 9 #[.slice a 1 c,.agg #[.int .i64 8,.bool false,.int .u64 0,.int .u64 0,.int .u64 0,.int .u64 0,.int .u64 0,.string ⟨#[]⟩,.slice (some ⟨g,0,none⟩) 1 1,.slice (some ⟨h,0,none⟩) 1 1]] wx fun e w'=>e=.returned (.bool p)∧Below wx.heap.size wx w'
  U:∀ (wx:World) (a:Option Addr) (c g h:Nat),Below w.heap.size w wx→PV wx a c→(recX g h (flatV 3 un uV 0 ⟨#[]⟩)).In wx→Calls Tryd.prog 9 #[.slice a 1 c,.agg #[.int .i64 8,.bool false,.int .u64 0,.int .u64 0,.int .u64 0,.int .u64 0,.int .u64 0,.string ⟨#[]⟩,.slice (some ⟨g,0,none⟩) 1 1,.slice (some ⟨h,0,none⟩) 1 1]] wx fun e w'=>e=.returned (.bool r)∧Below wx.heap.size wx w'
set_option maxRecDepth 20000 in
set_option maxHeartbeats 4000000 in
theorem Nm_go0 (n u wh:Int) (nn un:Bool) (nV uV:Nat) (s1 s2:ByteArray) (e1:(⟨#[115,121,110,116,97,120,32,61,32,34,112,114,111,116,111,51,34,59,32,109,101,115,115,97,103,101,32,77,32,123,32]⟩:ByteArray) ++ ⟨#[105,110,116,51,50]⟩=s1) (hz:s1.size≤200) (e2:s1 ++ (⟨#[32,120,32,61,32,49,59,32,125]⟩:ByteArray)=s2) (hq:wrap64 ((IntKind.u64.wrap wh).tmod 6)=0) (PV:World→Option Addr→Nat→Prop) (p r:Bool) (hp:p=(decide (-2147483648≤n) && decide (n < 2147483648))) (hr:r=(decide (u < 2147483648))) (hvn:nV < 2 ^ 256) (hvu:uV < 2 ^ 256) (w:World)
    (CN:Hid (∀ wr:World,Calls Tryd.prog 6 #[.int .i64 n] wr fun e w'=>e=.returned (.agg #[.bool (nn ),.int .u64 (lm ( nV) 0:Nat),.int .u64 (lm ( nV) 1:Nat),.int .u64 (lm ( nV) 2:Nat),.int .u64 (lm ( nV) 3:Nat)])∧∃ O,w'=wr.alloc O)) (CU:Hid (∀ wr:World,Calls Tryd.prog 7 #[.int .u64 u] wr fun e w'=>e=.returned (.agg #[.bool (un ),.int .u64 (lm ( uV) 0:Nat),.int .u64 (lm ( uV) 1:Nat),.int .u64 (lm ( uV) 2:Nat),.int .u64 (lm ( uV) 3:Nat)])∧∃ O,w'=wr.alloc O)) (C:Hid (NmC0 w n u nn un nV uV s2 PV p r)) :
    Calls Tryd.prog 3 #[.int .i64 n,.int .u64 u,.int .i64 wh] w fun e w'=>e=.returned (.bool true)∧Below w.heap.size w w':=by
  have Hp:=Lib.hid hp
  have Hr:=Lib.hid hr
  clear hp hr
  go_enter Tryd.func3,Tryd.ntmps3
  go_upto_region 2 with fail
  go_upto_region 3 with (go_at_call 5;with_reducible refine (C.out.L _).mono ?_;rintro e w1 ⟨a,c,rfl,hPV,hb1⟩;have HPV:=Lib.hid hPV;clear hPV)
  have hB1:Below w.heap.size w w1:=by (repeat first|with_reducible exact Below.refl _ _|with_reducible assumption|with_reducible refine Below.drew ?_|with_reducible refine below_alloc ?_ _|((with_reducible refine Below.setCell ?_ ?_ _);rotate_left;(focus (first|with_reducible exact Nat.le_refl _|(simp;done)|(simp;omega)|omega)))|(with_reducible refine below_trans ?_ (by assumption)))
  go_upto_region 3 with fail
  go_cut [10,28,32] (fun s10 sa sb wx=>∃ B g h:Nat,s10=.pointer (some ⟨B,0,none⟩)∧sa=.slice (some ⟨h,0,none⟩) 1 1∧sb=.slice (some ⟨g,0,none⟩) 1 1∧Hid (RBx wx B (.int .i64 8) (.bool false) (.int .u64 0) (.int .u64 0) (.int .u64 0) (.int .u64 0) (.int .u64 0) (.string ⟨#[]⟩) (.slice (some ⟨g,0,none⟩) 1 1) (.slice (some ⟨h,0,none⟩) 1 1))∧Hid ((recX g h (flatV 3 nn nV 0 ⟨#[]⟩)).In wx)∧Below w1.heap.size w1 wx)
  case first=>
    go_wp2_with (go_at_call 6;with_reducible refine (CN.out _).mono ?_;rintro e w4 ⟨rfl,O,rfl⟩)
    all_goals (go_meet;exact ⟨_,_,_,rfl,rfl,rfl,Lib.hid ⟨by simp [go_sem]⟩,Lib.hid (rec_of hvn (by first|(simp;done)|(simp;omega)) (by first|(simp;done)|(simp;omega)) ⟨by simp [go_sem]⟩ (by simp [go_sem])),by (repeat first|with_reducible exact Below.refl _ _|with_reducible assumption|with_reducible refine Below.drew ?_|with_reducible refine below_alloc ?_ _|((with_reducible refine Below.setCell ?_ ?_ _);rotate_left;(focus (first|with_reducible exact Nat.le_refl _|(simp;done)|(simp;omega)|omega)))|(with_reducible refine below_trans ?_ (by assumption)))⟩)
  case rest=>
  obtain ⟨B,g,h,rfl,rfl,rfl,X,I,hb2⟩:=hcut
  have hB2:=below_trans hB1 hb2
  generalize wc=w2 at *
  go_upto_region 4 with fail
  go_cut [11,34,38] (fun s10 sa sb wx=>∃ B g h:Nat,s10=.pointer (some ⟨B,0,none⟩)∧sa=.slice (some ⟨h,0,none⟩) 1 1∧sb=.slice (some ⟨g,0,none⟩) 1 1∧Hid (RBx wx B (.int .i64 8) (.bool false) (.int .u64 0) (.int .u64 0) (.int .u64 0) (.int .u64 0) (.int .u64 0) (.string ⟨#[]⟩) (.slice (some ⟨g,0,none⟩) 1 1) (.slice (some ⟨h,0,none⟩) 1 1))∧Hid ((recX g h (flatV 3 un uV 0 ⟨#[]⟩)).In wx)∧Below w2.heap.size w2 wx)
  case first=>
    go_wp2_with (go_at_call 7;with_reducible refine (CU.out _).mono ?_;rintro e w4 ⟨rfl,O,rfl⟩)
    all_goals (go_meet;exact ⟨_,_,_,rfl,rfl,rfl,Lib.hid ⟨by simp [go_sem]⟩,Lib.hid (rec_of hvu (by first|(simp;done)|(simp;omega)) (by first|(simp;done)|(simp;omega)) ⟨by simp [go_sem]⟩ (by simp [go_sem])),by (repeat first|with_reducible exact Below.refl _ _|with_reducible assumption|with_reducible refine Below.drew ?_|with_reducible refine below_alloc ?_ _|((with_reducible refine Below.setCell ?_ ?_ _);rotate_left;(focus (first|with_reducible exact Nat.le_refl _|(simp;done)|(simp;omega)|omega)))|(with_reducible refine below_trans ?_ (by assumption)))⟩)
  case rest=>
  obtain ⟨B',g',h',rfl,rfl,rfl,X',I',hb3⟩:=hcut
  generalize wc=w3 at *
  have hB3:=below_trans hB2 hb3
  have X3:=Lib.hid (X.out.below hb3)
  have I3:=Lib.hid (VT.In.below hb3 _ I.out)
  have HPV3:=Lib.hid (C.out.pv _ _ _ _ (C.out.pv _ _ _ _ HPV.out hb2) hb3)
  clear X I HPV
  go_upto_block 0 with fail
  go_cut [12,13] (fun s12 s13 wx=>s12=.bool p∧s13=.bool r∧w3=wx)
  case first=>
    by_cases h1 : -2147483648≤n <;> by_cases h2:n < 2147483648 <;> by_cases h3:u < 2147483648
    all_goals (go_wp2_with fail;go_meet;exact ⟨by rw [Hp.out];simp [*],by rw [Hr.out];simp [*],rfl⟩)
  case rest=>
  obtain ⟨rfl,rfl,rfl⟩:=hcut
  obtain ⟨_,_,_,_,_,_,_,_,_,_⟩:=X3.out.all
  obtain ⟨_,_,_,_,_,_,_,_,_,_⟩:=X'.out.all
  repeat any_goals (first|(go_at_call 8;with_reducible refine (C.out.T _ hB3).mono ?_;rintro e w5 ⟨rfl,hb5⟩;have X5:=Lib.hid (X3.out.below hb5);have Y5:=Lib.hid (X'.out.below hb5);obtain ⟨_,_,_,_,_,_,_,_,_,_⟩:=X5.out.all)|(go_at_call 9;with_reducible refine (C.out.V _ _ _ _ _ (below_trans hB3 hb5) (C.out.pv _ _ _ _ HPV3.out hb5) (VT.In.below hb5 _ I3.out)).mono ?_;rintro e w6 ⟨rfl,hb6⟩;have Y6:=Lib.hid (Y5.out.below hb6);obtain ⟨_,_,_,_,_,_,_,_,_,_⟩:=Y6.out.all)|(go_at_call 9;with_reducible refine (C.out.U _ _ _ _ _ (below_trans hB3 (below_trans hb5 hb6)) (C.out.pv _ _ _ _ (C.out.pv _ _ _ _ HPV3.out hb5) hb6) (VT.In.below hb6 _ (VT.In.below hb5 _ I'.out))).mono ?_;rintro e w7 ⟨rfl,hb7⟩)|go_skip|go_guarded|go_step|go_upon|(dsimp only []))
  all_goals exact bodyPost_ret (v:=.bool true) (by simp [results,Tryd.results3,go_sem]) rfl ⟨rfl,below_trans hB3 (below_trans hb5 (below_trans hb6 hb7))⟩
set_option maxRecDepth 20000 in
set_option maxHeartbeats 4000000 in
theorem Nm_go1 (n u wh:Int) (nn un:Bool) (nV uV:Nat) (s1 s2:ByteArray) (e1:(⟨#[115,121,110,116,97,120,32,61,32,34,112,114,111,116,111,51,34,59,32,109,101,115,115,97,103,101,32,77,32,123,32]⟩:ByteArray) ++ ⟨#[115,105,110,116,51,50]⟩=s1) (hz:s1.size≤200) (e2:s1 ++ (⟨#[32,120,32,61,32,49,59,32,125]⟩:ByteArray)=s2) (hq:wrap64 ((IntKind.u64.wrap wh).tmod 6)=1) (PV:World→Option Addr→Nat→Prop) (p r:Bool) (hp:p=(decide (-2147483648≤n) && decide (n < 2147483648))) (hr:r=(decide (u < 2147483648))) (hvn:nV < 2 ^ 256) (hvu:uV < 2 ^ 256) (w:World)
    (CN:Hid (∀ wr:World,Calls Tryd.prog 6 #[.int .i64 n] wr fun e w'=>e=.returned (.agg #[.bool (nn ),.int .u64 (lm ( nV) 0:Nat),.int .u64 (lm ( nV) 1:Nat),.int .u64 (lm ( nV) 2:Nat),.int .u64 (lm ( nV) 3:Nat)])∧∃ O,w'=wr.alloc O)) (CU:Hid (∀ wr:World,Calls Tryd.prog 7 #[.int .u64 u] wr fun e w'=>e=.returned (.agg #[.bool (un ),.int .u64 (lm ( uV) 0:Nat),.int .u64 (lm ( uV) 1:Nat),.int .u64 (lm ( uV) 2:Nat),.int .u64 (lm ( uV) 3:Nat)])∧∃ O,w'=wr.alloc O)) (C:Hid (NmC0 w n u nn un nV uV s2 PV p r)) :
    Calls Tryd.prog 3 #[.int .i64 n,.int .u64 u,.int .i64 wh] w fun e w'=>e=.returned (.bool true)∧Below w.heap.size w w':=by
  have Hp:=Lib.hid hp
  have Hr:=Lib.hid hr
  clear hp hr
  go_enter Tryd.func3,Tryd.ntmps3
  go_upto_region 2 with fail
  go_upto_region 3 with (go_at_call 5;with_reducible refine (C.out.L _).mono ?_;rintro e w1 ⟨a,c,rfl,hPV,hb1⟩;have HPV:=Lib.hid hPV;clear hPV)
  have hB1:Below w.heap.size w w1:=by (repeat first|with_reducible exact Below.refl _ _|with_reducible assumption|with_reducible refine Below.drew ?_|with_reducible refine below_alloc ?_ _|((with_reducible refine Below.setCell ?_ ?_ _);rotate_left;(focus (first|with_reducible exact Nat.le_refl _|(simp;done)|(simp;omega)|omega)))|(with_reducible refine below_trans ?_ (by assumption)))
  go_upto_region 3 with fail
  go_cut [10,28,32] (fun s10 sa sb wx=>∃ B g h:Nat,s10=.pointer (some ⟨B,0,none⟩)∧sa=.slice (some ⟨h,0,none⟩) 1 1∧sb=.slice (some ⟨g,0,none⟩) 1 1∧Hid (RBx wx B (.int .i64 8) (.bool false) (.int .u64 0) (.int .u64 0) (.int .u64 0) (.int .u64 0) (.int .u64 0) (.string ⟨#[]⟩) (.slice (some ⟨g,0,none⟩) 1 1) (.slice (some ⟨h,0,none⟩) 1 1))∧Hid ((recX g h (flatV 3 nn nV 0 ⟨#[]⟩)).In wx)∧Below w1.heap.size w1 wx)
  case first=>
    go_wp2_with (go_at_call 6;with_reducible refine (CN.out _).mono ?_;rintro e w4 ⟨rfl,O,rfl⟩)
    all_goals (go_meet;exact ⟨_,_,_,rfl,rfl,rfl,Lib.hid ⟨by simp [go_sem]⟩,Lib.hid (rec_of hvn (by first|(simp;done)|(simp;omega)) (by first|(simp;done)|(simp;omega)) ⟨by simp [go_sem]⟩ (by simp [go_sem])),by (repeat first|with_reducible exact Below.refl _ _|with_reducible assumption|with_reducible refine Below.drew ?_|with_reducible refine below_alloc ?_ _|((with_reducible refine Below.setCell ?_ ?_ _);rotate_left;(focus (first|with_reducible exact Nat.le_refl _|(simp;done)|(simp;omega)|omega)))|(with_reducible refine below_trans ?_ (by assumption)))⟩)
  case rest=>
  obtain ⟨B,g,h,rfl,rfl,rfl,X,I,hb2⟩:=hcut
  have hB2:=below_trans hB1 hb2
  generalize wc=w2 at *
  go_upto_region 4 with fail
  go_cut [11,34,38] (fun s10 sa sb wx=>∃ B g h:Nat,s10=.pointer (some ⟨B,0,none⟩)∧sa=.slice (some ⟨h,0,none⟩) 1 1∧sb=.slice (some ⟨g,0,none⟩) 1 1∧Hid (RBx wx B (.int .i64 8) (.bool false) (.int .u64 0) (.int .u64 0) (.int .u64 0) (.int .u64 0) (.int .u64 0) (.string ⟨#[]⟩) (.slice (some ⟨g,0,none⟩) 1 1) (.slice (some ⟨h,0,none⟩) 1 1))∧Hid ((recX g h (flatV 3 un uV 0 ⟨#[]⟩)).In wx)∧Below w2.heap.size w2 wx)
  case first=>
    go_wp2_with (go_at_call 7;with_reducible refine (CU.out _).mono ?_;rintro e w4 ⟨rfl,O,rfl⟩)
    all_goals (go_meet;exact ⟨_,_,_,rfl,rfl,rfl,Lib.hid ⟨by simp [go_sem]⟩,Lib.hid (rec_of hvu (by first|(simp;done)|(simp;omega)) (by first|(simp;done)|(simp;omega)) ⟨by simp [go_sem]⟩ (by simp [go_sem])),by (repeat first|with_reducible exact Below.refl _ _|with_reducible assumption|with_reducible refine Below.drew ?_|with_reducible refine below_alloc ?_ _|((with_reducible refine Below.setCell ?_ ?_ _);rotate_left;(focus (first|with_reducible exact Nat.le_refl _|(simp;done)|(simp;omega)|omega)))|(with_reducible refine below_trans ?_ (by assumption)))⟩)
  case rest=>
  obtain ⟨B',g',h',rfl,rfl,rfl,X',I',hb3⟩:=hcut
  generalize wc=w3 at *
  have hB3:=below_trans hB2 hb3
  have X3:=Lib.hid (X.out.below hb3)
  have I3:=Lib.hid (VT.In.below hb3 _ I.out)
  have HPV3:=Lib.hid (C.out.pv _ _ _ _ (C.out.pv _ _ _ _ HPV.out hb2) hb3)
  clear X I HPV
  go_upto_block 0 with fail
  go_cut [12,13] (fun s12 s13 wx=>s12=.bool p∧s13=.bool r∧w3=wx)
  case first=>
    by_cases h1 : -2147483648≤n <;> by_cases h2:n < 2147483648 <;> by_cases h3:u < 2147483648
    all_goals (go_wp2_with fail;go_meet;exact ⟨by rw [Hp.out];simp [*],by rw [Hr.out];simp [*],rfl⟩)
  case rest=>
  obtain ⟨rfl,rfl,rfl⟩:=hcut
  obtain ⟨_,_,_,_,_,_,_,_,_,_⟩:=X3.out.all
  obtain ⟨_,_,_,_,_,_,_,_,_,_⟩:=X'.out.all
  repeat any_goals (first|(go_at_call 8;with_reducible refine (C.out.T _ hB3).mono ?_;rintro e w5 ⟨rfl,hb5⟩;have X5:=Lib.hid (X3.out.below hb5);have Y5:=Lib.hid (X'.out.below hb5);obtain ⟨_,_,_,_,_,_,_,_,_,_⟩:=X5.out.all)|(go_at_call 9;with_reducible refine (C.out.V _ _ _ _ _ (below_trans hB3 hb5) (C.out.pv _ _ _ _ HPV3.out hb5) (VT.In.below hb5 _ I3.out)).mono ?_;rintro e w6 ⟨rfl,hb6⟩;have Y6:=Lib.hid (Y5.out.below hb6);obtain ⟨_,_,_,_,_,_,_,_,_,_⟩:=Y6.out.all)|(go_at_call 9;with_reducible refine (C.out.U _ _ _ _ _ (below_trans hB3 (below_trans hb5 hb6)) (C.out.pv _ _ _ _ (C.out.pv _ _ _ _ HPV3.out hb5) hb6) (VT.In.below hb6 _ (VT.In.below hb5 _ I'.out))).mono ?_;rintro e w7 ⟨rfl,hb7⟩)|go_skip|go_guarded|go_step|go_upon|(dsimp only []))
  all_goals exact bodyPost_ret (v:=.bool true) (by simp [results,Tryd.results3,go_sem]) rfl ⟨rfl,below_trans hB3 (below_trans hb5 (below_trans hb6 hb7))⟩
set_option maxRecDepth 20000 in
set_option maxHeartbeats 4000000 in
theorem Nm_go2 (n u wh:Int) (nn un:Bool) (nV uV:Nat) (s1 s2:ByteArray) (e1:(⟨#[115,121,110,116,97,120,32,61,32,34,112,114,111,116,111,51,34,59,32,109,101,115,115,97,103,101,32,77,32,123,32]⟩:ByteArray) ++ ⟨#[105,110,116,54,52]⟩=s1) (hz:s1.size≤200) (e2:s1 ++ (⟨#[32,120,32,61,32,49,59,32,125]⟩:ByteArray)=s2) (hq:wrap64 ((IntKind.u64.wrap wh).tmod 6)=2) (PV:World→Option Addr→Nat→Prop) (p r:Bool) (hp:p=(true)) (hr:r=(decide (u < 9223372036854775808))) (hvn:nV < 2 ^ 256) (hvu:uV < 2 ^ 256) (w:World)
    (CN:Hid (∀ wr:World,Calls Tryd.prog 6 #[.int .i64 n] wr fun e w'=>e=.returned (.agg #[.bool (nn ),.int .u64 (lm ( nV) 0:Nat),.int .u64 (lm ( nV) 1:Nat),.int .u64 (lm ( nV) 2:Nat),.int .u64 (lm ( nV) 3:Nat)])∧∃ O,w'=wr.alloc O)) (CU:Hid (∀ wr:World,Calls Tryd.prog 7 #[.int .u64 u] wr fun e w'=>e=.returned (.agg #[.bool (un ),.int .u64 (lm ( uV) 0:Nat),.int .u64 (lm ( uV) 1:Nat),.int .u64 (lm ( uV) 2:Nat),.int .u64 (lm ( uV) 3:Nat)])∧∃ O,w'=wr.alloc O)) (C:Hid (NmC0 w n u nn un nV uV s2 PV p r)) :
    Calls Tryd.prog 3 #[.int .i64 n,.int .u64 u,.int .i64 wh] w fun e w'=>e=.returned (.bool true)∧Below w.heap.size w w':=by
  have Hp:=Lib.hid hp
  have Hr:=Lib.hid hr
  clear hp hr
  go_enter Tryd.func3,Tryd.ntmps3
  go_upto_region 2 with fail
  go_upto_region 3 with (go_at_call 5;with_reducible refine (C.out.L _).mono ?_;rintro e w1 ⟨a,c,rfl,hPV,hb1⟩;have HPV:=Lib.hid hPV;clear hPV)
  have hB1:Below w.heap.size w w1:=by (repeat first|with_reducible exact Below.refl _ _|with_reducible assumption|with_reducible refine Below.drew ?_|with_reducible refine below_alloc ?_ _|((with_reducible refine Below.setCell ?_ ?_ _);rotate_left;(focus (first|with_reducible exact Nat.le_refl _|(simp;done)|(simp;omega)|omega)))|(with_reducible refine below_trans ?_ (by assumption)))
  go_upto_region 3 with fail
  go_cut [10,28,32] (fun s10 sa sb wx=>∃ B g h:Nat,s10=.pointer (some ⟨B,0,none⟩)∧sa=.slice (some ⟨h,0,none⟩) 1 1∧sb=.slice (some ⟨g,0,none⟩) 1 1∧Hid (RBx wx B (.int .i64 8) (.bool false) (.int .u64 0) (.int .u64 0) (.int .u64 0) (.int .u64 0) (.int .u64 0) (.string ⟨#[]⟩) (.slice (some ⟨g,0,none⟩) 1 1) (.slice (some ⟨h,0,none⟩) 1 1))∧Hid ((recX g h (flatV 3 nn nV 0 ⟨#[]⟩)).In wx)∧Below w1.heap.size w1 wx)
  case first=>
    go_wp2_with (go_at_call 6;with_reducible refine (CN.out _).mono ?_;rintro e w4 ⟨rfl,O,rfl⟩)
    all_goals (go_meet;exact ⟨_,_,_,rfl,rfl,rfl,Lib.hid ⟨by simp [go_sem]⟩,Lib.hid (rec_of hvn (by first|(simp;done)|(simp;omega)) (by first|(simp;done)|(simp;omega)) ⟨by simp [go_sem]⟩ (by simp [go_sem])),by (repeat first|with_reducible exact Below.refl _ _|with_reducible assumption|with_reducible refine Below.drew ?_|with_reducible refine below_alloc ?_ _|((with_reducible refine Below.setCell ?_ ?_ _);rotate_left;(focus (first|with_reducible exact Nat.le_refl _|(simp;done)|(simp;omega)|omega)))|(with_reducible refine below_trans ?_ (by assumption)))⟩)
  case rest=>
  obtain ⟨B,g,h,rfl,rfl,rfl,X,I,hb2⟩:=hcut
  have hB2:=below_trans hB1 hb2
  generalize wc=w2 at *
  go_upto_region 4 with fail
  go_cut [11,34,38] (fun s10 sa sb wx=>∃ B g h:Nat,s10=.pointer (some ⟨B,0,none⟩)∧sa=.slice (some ⟨h,0,none⟩) 1 1∧sb=.slice (some ⟨g,0,none⟩) 1 1∧Hid (RBx wx B (.int .i64 8) (.bool false) (.int .u64 0) (.int .u64 0) (.int .u64 0) (.int .u64 0) (.int .u64 0) (.string ⟨#[]⟩) (.slice (some ⟨g,0,none⟩) 1 1) (.slice (some ⟨h,0,none⟩) 1 1))∧Hid ((recX g h (flatV 3 un uV 0 ⟨#[]⟩)).In wx)∧Below w2.heap.size w2 wx)
  case first=>
    go_wp2_with (go_at_call 7;with_reducible refine (CU.out _).mono ?_;rintro e w4 ⟨rfl,O,rfl⟩)
    all_goals (go_meet;exact ⟨_,_,_,rfl,rfl,rfl,Lib.hid ⟨by simp [go_sem]⟩,Lib.hid (rec_of hvu (by first|(simp;done)|(simp;omega)) (by first|(simp;done)|(simp;omega)) ⟨by simp [go_sem]⟩ (by simp [go_sem])),by (repeat first|with_reducible exact Below.refl _ _|with_reducible assumption|with_reducible refine Below.drew ?_|with_reducible refine below_alloc ?_ _|((with_reducible refine Below.setCell ?_ ?_ _);rotate_left;(focus (first|with_reducible exact Nat.le_refl _|(simp;done)|(simp;omega)|omega)))|(with_reducible refine below_trans ?_ (by assumption)))⟩)
  case rest=>
  obtain ⟨B',g',h',rfl,rfl,rfl,X',I',hb3⟩:=hcut
  generalize wc=w3 at *
  have hB3:=below_trans hB2 hb3
  have X3:=Lib.hid (X.out.below hb3)
  have I3:=Lib.hid (VT.In.below hb3 _ I.out)
  have HPV3:=Lib.hid (C.out.pv _ _ _ _ (C.out.pv _ _ _ _ HPV.out hb2) hb3)
  clear X I HPV
  go_upto_block 0 with fail
  go_cut [12,13] (fun s12 s13 wx=>s12=.bool p∧s13=.bool r∧w3=wx)
  case first=>
    by_cases h3:u < 9223372036854775808
    all_goals (go_wp2_with fail;go_meet;exact ⟨by rw [Hp.out],by rw [Hr.out];simp [*],rfl⟩)
  case rest=>
  obtain ⟨rfl,rfl,rfl⟩:=hcut
  obtain ⟨_,_,_,_,_,_,_,_,_,_⟩:=X3.out.all
  obtain ⟨_,_,_,_,_,_,_,_,_,_⟩:=X'.out.all
  repeat any_goals (first|(go_at_call 8;with_reducible refine (C.out.T _ hB3).mono ?_;rintro e w5 ⟨rfl,hb5⟩;have X5:=Lib.hid (X3.out.below hb5);have Y5:=Lib.hid (X'.out.below hb5);obtain ⟨_,_,_,_,_,_,_,_,_,_⟩:=X5.out.all)|(go_at_call 9;with_reducible refine (C.out.V _ _ _ _ _ (below_trans hB3 hb5) (C.out.pv _ _ _ _ HPV3.out hb5) (VT.In.below hb5 _ I3.out)).mono ?_;rintro e w6 ⟨rfl,hb6⟩;have Y6:=Lib.hid (Y5.out.below hb6);obtain ⟨_,_,_,_,_,_,_,_,_,_⟩:=Y6.out.all)|(go_at_call 9;with_reducible refine (C.out.U _ _ _ _ _ (below_trans hB3 (below_trans hb5 hb6)) (C.out.pv _ _ _ _ (C.out.pv _ _ _ _ HPV3.out hb5) hb6) (VT.In.below hb6 _ (VT.In.below hb5 _ I'.out))).mono ?_;rintro e w7 ⟨rfl,hb7⟩)|go_skip|go_guarded|go_step|go_upon|(dsimp only []))
  all_goals exact bodyPost_ret (v:=.bool true) (by simp [results,Tryd.results3,go_sem]) rfl ⟨rfl,below_trans hB3 (below_trans hb5 (below_trans hb6 hb7))⟩
set_option maxRecDepth 20000 in
set_option maxHeartbeats 4000000 in
theorem Nm_go3 (n u wh:Int) (nn un:Bool) (nV uV:Nat) (s1 s2:ByteArray) (e1:(⟨#[115,121,110,116,97,120,32,61,32,34,112,114,111,116,111,51,34,59,32,109,101,115,115,97,103,101,32,77,32,123,32]⟩:ByteArray) ++ ⟨#[115,105,110,116,54,52]⟩=s1) (hz:s1.size≤200) (e2:s1 ++ (⟨#[32,120,32,61,32,49,59,32,125]⟩:ByteArray)=s2) (hq:wrap64 ((IntKind.u64.wrap wh).tmod 6)=3) (PV:World→Option Addr→Nat→Prop) (p r:Bool) (hp:p=(true)) (hr:r=(decide (u < 9223372036854775808))) (hvn:nV < 2 ^ 256) (hvu:uV < 2 ^ 256) (w:World)
    (CN:Hid (∀ wr:World,Calls Tryd.prog 6 #[.int .i64 n] wr fun e w'=>e=.returned (.agg #[.bool (nn ),.int .u64 (lm ( nV) 0:Nat),.int .u64 (lm ( nV) 1:Nat),.int .u64 (lm ( nV) 2:Nat),.int .u64 (lm ( nV) 3:Nat)])∧∃ O,w'=wr.alloc O)) (CU:Hid (∀ wr:World,Calls Tryd.prog 7 #[.int .u64 u] wr fun e w'=>e=.returned (.agg #[.bool (un ),.int .u64 (lm ( uV) 0:Nat),.int .u64 (lm ( uV) 1:Nat),.int .u64 (lm ( uV) 2:Nat),.int .u64 (lm ( uV) 3:Nat)])∧∃ O,w'=wr.alloc O)) (C:Hid (NmC0 w n u nn un nV uV s2 PV p r)) :
    Calls Tryd.prog 3 #[.int .i64 n,.int .u64 u,.int .i64 wh] w fun e w'=>e=.returned (.bool true)∧Below w.heap.size w w':=by
  have Hp:=Lib.hid hp
  have Hr:=Lib.hid hr
  clear hp hr
  go_enter Tryd.func3,Tryd.ntmps3
  go_upto_region 2 with fail
  go_upto_region 3 with (go_at_call 5;with_reducible refine (C.out.L _).mono ?_;rintro e w1 ⟨a,c,rfl,hPV,hb1⟩;have HPV:=Lib.hid hPV;clear hPV)
  have hB1:Below w.heap.size w w1:=by (repeat first|with_reducible exact Below.refl _ _|with_reducible assumption|with_reducible refine Below.drew ?_|with_reducible refine below_alloc ?_ _|((with_reducible refine Below.setCell ?_ ?_ _);rotate_left;(focus (first|with_reducible exact Nat.le_refl _|(simp;done)|(simp;omega)|omega)))|(with_reducible refine below_trans ?_ (by assumption)))
  go_upto_region 3 with fail
  go_cut [10,28,32] (fun s10 sa sb wx=>∃ B g h:Nat,s10=.pointer (some ⟨B,0,none⟩)∧sa=.slice (some ⟨h,0,none⟩) 1 1∧sb=.slice (some ⟨g,0,none⟩) 1 1∧Hid (RBx wx B (.int .i64 8) (.bool false) (.int .u64 0) (.int .u64 0) (.int .u64 0) (.int .u64 0) (.int .u64 0) (.string ⟨#[]⟩) (.slice (some ⟨g,0,none⟩) 1 1) (.slice (some ⟨h,0,none⟩) 1 1))∧Hid ((recX g h (flatV 3 nn nV 0 ⟨#[]⟩)).In wx)∧Below w1.heap.size w1 wx)
  case first=>
    go_wp2_with (go_at_call 6;with_reducible refine (CN.out _).mono ?_;rintro e w4 ⟨rfl,O,rfl⟩)
    all_goals (go_meet;exact ⟨_,_,_,rfl,rfl,rfl,Lib.hid ⟨by simp [go_sem]⟩,Lib.hid (rec_of hvn (by first|(simp;done)|(simp;omega)) (by first|(simp;done)|(simp;omega)) ⟨by simp [go_sem]⟩ (by simp [go_sem])),by (repeat first|with_reducible exact Below.refl _ _|with_reducible assumption|with_reducible refine Below.drew ?_|with_reducible refine below_alloc ?_ _|((with_reducible refine Below.setCell ?_ ?_ _);rotate_left;(focus (first|with_reducible exact Nat.le_refl _|(simp;done)|(simp;omega)|omega)))|(with_reducible refine below_trans ?_ (by assumption)))⟩)
  case rest=>
  obtain ⟨B,g,h,rfl,rfl,rfl,X,I,hb2⟩:=hcut
  have hB2:=below_trans hB1 hb2
  generalize wc=w2 at *
  go_upto_region 4 with fail
  go_cut [11,34,38] (fun s10 sa sb wx=>∃ B g h:Nat,s10=.pointer (some ⟨B,0,none⟩)∧sa=.slice (some ⟨h,0,none⟩) 1 1∧sb=.slice (some ⟨g,0,none⟩) 1 1∧Hid (RBx wx B (.int .i64 8) (.bool false) (.int .u64 0) (.int .u64 0) (.int .u64 0) (.int .u64 0) (.int .u64 0) (.string ⟨#[]⟩) (.slice (some ⟨g,0,none⟩) 1 1) (.slice (some ⟨h,0,none⟩) 1 1))∧Hid ((recX g h (flatV 3 un uV 0 ⟨#[]⟩)).In wx)∧Below w2.heap.size w2 wx)
  case first=>
    go_wp2_with (go_at_call 7;with_reducible refine (CU.out _).mono ?_;rintro e w4 ⟨rfl,O,rfl⟩)
    all_goals (go_meet;exact ⟨_,_,_,rfl,rfl,rfl,Lib.hid ⟨by simp [go_sem]⟩,Lib.hid (rec_of hvu (by first|(simp;done)|(simp;omega)) (by first|(simp;done)|(simp;omega)) ⟨by simp [go_sem]⟩ (by simp [go_sem])),by (repeat first|with_reducible exact Below.refl _ _|with_reducible assumption|with_reducible refine Below.drew ?_|with_reducible refine below_alloc ?_ _|((with_reducible refine Below.setCell ?_ ?_ _);rotate_left;(focus (first|with_reducible exact Nat.le_refl _|(simp;done)|(simp;omega)|omega)))|(with_reducible refine below_trans ?_ (by assumption)))⟩)
  case rest=>
  obtain ⟨B',g',h',rfl,rfl,rfl,X',I',hb3⟩:=hcut
  generalize wc=w3 at *
  have hB3:=below_trans hB2 hb3
  have X3:=Lib.hid (X.out.below hb3)
  have I3:=Lib.hid (VT.In.below hb3 _ I.out)
  have HPV3:=Lib.hid (C.out.pv _ _ _ _ (C.out.pv _ _ _ _ HPV.out hb2) hb3)
  clear X I HPV
  go_upto_block 0 with fail
  go_cut [12,13] (fun s12 s13 wx=>s12=.bool p∧s13=.bool r∧w3=wx)
  case first=>
    by_cases h3:u < 9223372036854775808
    all_goals (go_wp2_with fail;go_meet;exact ⟨by rw [Hp.out],by rw [Hr.out];simp [*],rfl⟩)
  case rest=>
  obtain ⟨rfl,rfl,rfl⟩:=hcut
  obtain ⟨_,_,_,_,_,_,_,_,_,_⟩:=X3.out.all
  obtain ⟨_,_,_,_,_,_,_,_,_,_⟩:=X'.out.all
  repeat any_goals (first|(go_at_call 8;with_reducible refine (C.out.T _ hB3).mono ?_;rintro e w5 ⟨rfl,hb5⟩;have X5:=Lib.hid (X3.out.below hb5);have Y5:=Lib.hid (X'.out.below hb5);obtain ⟨_,_,_,_,_,_,_,_,_,_⟩:=X5.out.all)|(go_at_call 9;with_reducible refine (C.out.V _ _ _ _ _ (below_trans hB3 hb5) (C.out.pv _ _ _ _ HPV3.out hb5) (VT.In.below hb5 _ I3.out)).mono ?_;rintro e w6 ⟨rfl,hb6⟩;have Y6:=Lib.hid (Y5.out.below hb6);obtain ⟨_,_,_,_,_,_,_,_,_,_⟩:=Y6.out.all)|(go_at_call 9;with_reducible refine (C.out.U _ _ _ _ _ (below_trans hB3 (below_trans hb5 hb6)) (C.out.pv _ _ _ _ (C.out.pv _ _ _ _ HPV3.out hb5) hb6) (VT.In.below hb6 _ (VT.In.below hb5 _ I'.out))).mono ?_;rintro e w7 ⟨rfl,hb7⟩)|go_skip|go_guarded|go_step|go_upon|(dsimp only []))
  all_goals exact bodyPost_ret (v:=.bool true) (by simp [results,Tryd.results3,go_sem]) rfl ⟨rfl,below_trans hB3 (below_trans hb5 (below_trans hb6 hb7))⟩
set_option maxRecDepth 20000 in
set_option maxHeartbeats 4000000 in
theorem Nm_go4 (n u wh:Int) (nn un:Bool) (nV uV:Nat) (s1 s2:ByteArray) (e1:(⟨#[115,121,110,116,97,120,32,61,32,34,112,114,111,116,111,51,34,59,32,109,101,115,115,97,103,101,32,77,32,123,32]⟩:ByteArray) ++ ⟨#[117,105,110,116,51,50]⟩=s1) (hz:s1.size≤200) (e2:s1 ++ (⟨#[32,120,32,61,32,49,59,32,125]⟩:ByteArray)=s2) (hq:wrap64 ((IntKind.u64.wrap wh).tmod 6)=4) (PV:World→Option Addr→Nat→Prop) (p r:Bool) (hp:p=(decide (0≤n) && decide (n < 4294967296))) (hr:r=(decide (u < 4294967296))) (hvn:nV < 2 ^ 256) (hvu:uV < 2 ^ 256) (w:World)
    (CN:Hid (∀ wr:World,Calls Tryd.prog 6 #[.int .i64 n] wr fun e w'=>e=.returned (.agg #[.bool (nn ),.int .u64 (lm ( nV) 0:Nat),.int .u64 (lm ( nV) 1:Nat),.int .u64 (lm ( nV) 2:Nat),.int .u64 (lm ( nV) 3:Nat)])∧∃ O,w'=wr.alloc O)) (CU:Hid (∀ wr:World,Calls Tryd.prog 7 #[.int .u64 u] wr fun e w'=>e=.returned (.agg #[.bool (un ),.int .u64 (lm ( uV) 0:Nat),.int .u64 (lm ( uV) 1:Nat),.int .u64 (lm ( uV) 2:Nat),.int .u64 (lm ( uV) 3:Nat)])∧∃ O,w'=wr.alloc O)) (C:Hid (NmC0 w n u nn un nV uV s2 PV p r)) :
    Calls Tryd.prog 3 #[.int .i64 n,.int .u64 u,.int .i64 wh] w fun e w'=>e=.returned (.bool true)∧Below w.heap.size w w':=by
  have Hp:=Lib.hid hp
  have Hr:=Lib.hid hr
  clear hp hr
  go_enter Tryd.func3,Tryd.ntmps3
  go_upto_region 2 with fail
  go_upto_region 3 with (go_at_call 5;with_reducible refine (C.out.L _).mono ?_;rintro e w1 ⟨a,c,rfl,hPV,hb1⟩;have HPV:=Lib.hid hPV;clear hPV)
  have hB1:Below w.heap.size w w1:=by (repeat first|with_reducible exact Below.refl _ _|with_reducible assumption|with_reducible refine Below.drew ?_|with_reducible refine below_alloc ?_ _|((with_reducible refine Below.setCell ?_ ?_ _);rotate_left;(focus (first|with_reducible exact Nat.le_refl _|(simp;done)|(simp;omega)|omega)))|(with_reducible refine below_trans ?_ (by assumption)))
  go_upto_region 3 with fail
  go_cut [10,28,32] (fun s10 sa sb wx=>∃ B g h:Nat,s10=.pointer (some ⟨B,0,none⟩)∧sa=.slice (some ⟨h,0,none⟩) 1 1∧sb=.slice (some ⟨g,0,none⟩) 1 1∧Hid (RBx wx B (.int .i64 8) (.bool false) (.int .u64 0) (.int .u64 0) (.int .u64 0) (.int .u64 0) (.int .u64 0) (.string ⟨#[]⟩) (.slice (some ⟨g,0,none⟩) 1 1) (.slice (some ⟨h,0,none⟩) 1 1))∧Hid ((recX g h (flatV 3 nn nV 0 ⟨#[]⟩)).In wx)∧Below w1.heap.size w1 wx)
  case first=>
    go_wp2_with (go_at_call 6;with_reducible refine (CN.out _).mono ?_;rintro e w4 ⟨rfl,O,rfl⟩)
    all_goals (go_meet;exact ⟨_,_,_,rfl,rfl,rfl,Lib.hid ⟨by simp [go_sem]⟩,Lib.hid (rec_of hvn (by first|(simp;done)|(simp;omega)) (by first|(simp;done)|(simp;omega)) ⟨by simp [go_sem]⟩ (by simp [go_sem])),by (repeat first|with_reducible exact Below.refl _ _|with_reducible assumption|with_reducible refine Below.drew ?_|with_reducible refine below_alloc ?_ _|((with_reducible refine Below.setCell ?_ ?_ _);rotate_left;(focus (first|with_reducible exact Nat.le_refl _|(simp;done)|(simp;omega)|omega)))|(with_reducible refine below_trans ?_ (by assumption)))⟩)
  case rest=>
  obtain ⟨B,g,h,rfl,rfl,rfl,X,I,hb2⟩:=hcut
  have hB2:=below_trans hB1 hb2
  generalize wc=w2 at *
  go_upto_region 4 with fail
  go_cut [11,34,38] (fun s10 sa sb wx=>∃ B g h:Nat,s10=.pointer (some ⟨B,0,none⟩)∧sa=.slice (some ⟨h,0,none⟩) 1 1∧sb=.slice (some ⟨g,0,none⟩) 1 1∧Hid (RBx wx B (.int .i64 8) (.bool false) (.int .u64 0) (.int .u64 0) (.int .u64 0) (.int .u64 0) (.int .u64 0) (.string ⟨#[]⟩) (.slice (some ⟨g,0,none⟩) 1 1) (.slice (some ⟨h,0,none⟩) 1 1))∧Hid ((recX g h (flatV 3 un uV 0 ⟨#[]⟩)).In wx)∧Below w2.heap.size w2 wx)
  case first=>
    go_wp2_with (go_at_call 7;with_reducible refine (CU.out _).mono ?_;rintro e w4 ⟨rfl,O,rfl⟩)
    all_goals (go_meet;exact ⟨_,_,_,rfl,rfl,rfl,Lib.hid ⟨by simp [go_sem]⟩,Lib.hid (rec_of hvu (by first|(simp;done)|(simp;omega)) (by first|(simp;done)|(simp;omega)) ⟨by simp [go_sem]⟩ (by simp [go_sem])),by (repeat first|with_reducible exact Below.refl _ _|with_reducible assumption|with_reducible refine Below.drew ?_|with_reducible refine below_alloc ?_ _|((with_reducible refine Below.setCell ?_ ?_ _);rotate_left;(focus (first|with_reducible exact Nat.le_refl _|(simp;done)|(simp;omega)|omega)))|(with_reducible refine below_trans ?_ (by assumption)))⟩)
  case rest=>
  obtain ⟨B',g',h',rfl,rfl,rfl,X',I',hb3⟩:=hcut
  generalize wc=w3 at *
  have hB3:=below_trans hB2 hb3
  have X3:=Lib.hid (X.out.below hb3)
  have I3:=Lib.hid (VT.In.below hb3 _ I.out)
  have HPV3:=Lib.hid (C.out.pv _ _ _ _ (C.out.pv _ _ _ _ HPV.out hb2) hb3)
  clear X I HPV
  go_upto_block 0 with fail
  go_cut [12,13] (fun s12 s13 wx=>s12=.bool p∧s13=.bool r∧w3=wx)
  case first=>
    by_cases h1:0≤n <;> by_cases h2:n < 4294967296 <;> by_cases h3:u < 4294967296
    all_goals (go_wp2_with fail;go_meet;exact ⟨by rw [Hp.out];simp [*],by rw [Hr.out];simp [*],rfl⟩)
  case rest=>
  obtain ⟨rfl,rfl,rfl⟩:=hcut
  obtain ⟨_,_,_,_,_,_,_,_,_,_⟩:=X3.out.all
  obtain ⟨_,_,_,_,_,_,_,_,_,_⟩:=X'.out.all
  repeat any_goals (first|(go_at_call 8;with_reducible refine (C.out.T _ hB3).mono ?_;rintro e w5 ⟨rfl,hb5⟩;have X5:=Lib.hid (X3.out.below hb5);have Y5:=Lib.hid (X'.out.below hb5);obtain ⟨_,_,_,_,_,_,_,_,_,_⟩:=X5.out.all)|(go_at_call 9;with_reducible refine (C.out.V _ _ _ _ _ (below_trans hB3 hb5) (C.out.pv _ _ _ _ HPV3.out hb5) (VT.In.below hb5 _ I3.out)).mono ?_;rintro e w6 ⟨rfl,hb6⟩;have Y6:=Lib.hid (Y5.out.below hb6);obtain ⟨_,_,_,_,_,_,_,_,_,_⟩:=Y6.out.all)|(go_at_call 9;with_reducible refine (C.out.U _ _ _ _ _ (below_trans hB3 (below_trans hb5 hb6)) (C.out.pv _ _ _ _ (C.out.pv _ _ _ _ HPV3.out hb5) hb6) (VT.In.below hb6 _ (VT.In.below hb5 _ I'.out))).mono ?_;rintro e w7 ⟨rfl,hb7⟩)|go_skip|go_guarded|go_step|go_upon|(dsimp only []))
  all_goals exact bodyPost_ret (v:=.bool true) (by simp [results,Tryd.results3,go_sem]) rfl ⟨rfl,below_trans hB3 (below_trans hb5 (below_trans hb6 hb7))⟩
set_option maxRecDepth 20000 in
set_option maxHeartbeats 4000000 in
theorem Nm_go5 (n u wh:Int) (nn un:Bool) (nV uV:Nat) (s1 s2:ByteArray) (e1:(⟨#[115,121,110,116,97,120,32,61,32,34,112,114,111,116,111,51,34,59,32,109,101,115,115,97,103,101,32,77,32,123,32]⟩:ByteArray) ++ ⟨#[117,105,110,116,54,52]⟩=s1) (hz:s1.size≤200) (e2:s1 ++ (⟨#[32,120,32,61,32,49,59,32,125]⟩:ByteArray)=s2) (hq:wrap64 ((IntKind.u64.wrap wh).tmod 6)=5) (PV:World→Option Addr→Nat→Prop) (p r:Bool) (hp:p=(decide (0≤n))) (hr:r=(true)) (hvn:nV < 2 ^ 256) (hvu:uV < 2 ^ 256) (w:World)
    (CN:Hid (∀ wr:World,Calls Tryd.prog 6 #[.int .i64 n] wr fun e w'=>e=.returned (.agg #[.bool (nn ),.int .u64 (lm ( nV) 0:Nat),.int .u64 (lm ( nV) 1:Nat),.int .u64 (lm ( nV) 2:Nat),.int .u64 (lm ( nV) 3:Nat)])∧∃ O,w'=wr.alloc O)) (CU:Hid (∀ wr:World,Calls Tryd.prog 7 #[.int .u64 u] wr fun e w'=>e=.returned (.agg #[.bool (un ),.int .u64 (lm ( uV) 0:Nat),.int .u64 (lm ( uV) 1:Nat),.int .u64 (lm ( uV) 2:Nat),.int .u64 (lm ( uV) 3:Nat)])∧∃ O,w'=wr.alloc O)) (C:Hid (NmC0 w n u nn un nV uV s2 PV p r)) :
    Calls Tryd.prog 3 #[.int .i64 n,.int .u64 u,.int .i64 wh] w fun e w'=>e=.returned (.bool true)∧Below w.heap.size w w':=by
  have Hp:=Lib.hid hp
  have Hr:=Lib.hid hr
  clear hp hr
  go_enter Tryd.func3,Tryd.ntmps3
  go_upto_region 2 with fail
  go_upto_region 3 with (go_at_call 5;with_reducible refine (C.out.L _).mono ?_;rintro e w1 ⟨a,c,rfl,hPV,hb1⟩;have HPV:=Lib.hid hPV;clear hPV)
  have hB1:Below w.heap.size w w1:=by (repeat first|with_reducible exact Below.refl _ _|with_reducible assumption|with_reducible refine Below.drew ?_|with_reducible refine below_alloc ?_ _|((with_reducible refine Below.setCell ?_ ?_ _);rotate_left;(focus (first|with_reducible exact Nat.le_refl _|(simp;done)|(simp;omega)|omega)))|(with_reducible refine below_trans ?_ (by assumption)))
  go_upto_region 3 with fail
  go_cut [10,28,32] (fun s10 sa sb wx=>∃ B g h:Nat,s10=.pointer (some ⟨B,0,none⟩)∧sa=.slice (some ⟨h,0,none⟩) 1 1∧sb=.slice (some ⟨g,0,none⟩) 1 1∧Hid (RBx wx B (.int .i64 8) (.bool false) (.int .u64 0) (.int .u64 0) (.int .u64 0) (.int .u64 0) (.int .u64 0) (.string ⟨#[]⟩) (.slice (some ⟨g,0,none⟩) 1 1) (.slice (some ⟨h,0,none⟩) 1 1))∧Hid ((recX g h (flatV 3 nn nV 0 ⟨#[]⟩)).In wx)∧Below w1.heap.size w1 wx)
  case first=>
    go_wp2_with (go_at_call 6;with_reducible refine (CN.out _).mono ?_;rintro e w4 ⟨rfl,O,rfl⟩)
    all_goals (go_meet;exact ⟨_,_,_,rfl,rfl,rfl,Lib.hid ⟨by simp [go_sem]⟩,Lib.hid (rec_of hvn (by first|(simp;done)|(simp;omega)) (by first|(simp;done)|(simp;omega)) ⟨by simp [go_sem]⟩ (by simp [go_sem])),by (repeat first|with_reducible exact Below.refl _ _|with_reducible assumption|with_reducible refine Below.drew ?_|with_reducible refine below_alloc ?_ _|((with_reducible refine Below.setCell ?_ ?_ _);rotate_left;(focus (first|with_reducible exact Nat.le_refl _|(simp;done)|(simp;omega)|omega)))|(with_reducible refine below_trans ?_ (by assumption)))⟩)
  case rest=>
  obtain ⟨B,g,h,rfl,rfl,rfl,X,I,hb2⟩:=hcut
  have hB2:=below_trans hB1 hb2
  generalize wc=w2 at *
  go_upto_region 4 with fail
  go_cut [11,34,38] (fun s10 sa sb wx=>∃ B g h:Nat,s10=.pointer (some ⟨B,0,none⟩)∧sa=.slice (some ⟨h,0,none⟩) 1 1∧sb=.slice (some ⟨g,0,none⟩) 1 1∧Hid (RBx wx B (.int .i64 8) (.bool false) (.int .u64 0) (.int .u64 0) (.int .u64 0) (.int .u64 0) (.int .u64 0) (.string ⟨#[]⟩) (.slice (some ⟨g,0,none⟩) 1 1) (.slice (some ⟨h,0,none⟩) 1 1))∧Hid ((recX g h (flatV 3 un uV 0 ⟨#[]⟩)).In wx)∧Below w2.heap.size w2 wx)
  case first=>
    go_wp2_with (go_at_call 7;with_reducible refine (CU.out _).mono ?_;rintro e w4 ⟨rfl,O,rfl⟩)
    all_goals (go_meet;exact ⟨_,_,_,rfl,rfl,rfl,Lib.hid ⟨by simp [go_sem]⟩,Lib.hid (rec_of hvu (by first|(simp;done)|(simp;omega)) (by first|(simp;done)|(simp;omega)) ⟨by simp [go_sem]⟩ (by simp [go_sem])),by (repeat first|with_reducible exact Below.refl _ _|with_reducible assumption|with_reducible refine Below.drew ?_|with_reducible refine below_alloc ?_ _|((with_reducible refine Below.setCell ?_ ?_ _);rotate_left;(focus (first|with_reducible exact Nat.le_refl _|(simp;done)|(simp;omega)|omega)))|(with_reducible refine below_trans ?_ (by assumption)))⟩)
  case rest=>
  obtain ⟨B',g',h',rfl,rfl,rfl,X',I',hb3⟩:=hcut
  generalize wc=w3 at *
  have hB3:=below_trans hB2 hb3
  have X3:=Lib.hid (X.out.below hb3)
  have I3:=Lib.hid (VT.In.below hb3 _ I.out)
  have HPV3:=Lib.hid (C.out.pv _ _ _ _ (C.out.pv _ _ _ _ HPV.out hb2) hb3)
  clear X I HPV
  go_upto_block 0 with fail
  go_cut [12,13] (fun s12 s13 wx=>s12=.bool p∧s13=.bool r∧w3=wx)
  case first=>
    by_cases h1:0≤n
    all_goals (go_wp2_with fail;go_meet;exact ⟨by rw [Hp.out];simp [*],by rw [Hr.out],rfl⟩)
  case rest=>
  obtain ⟨rfl,rfl,rfl⟩:=hcut
  obtain ⟨_,_,_,_,_,_,_,_,_,_⟩:=X3.out.all
  obtain ⟨_,_,_,_,_,_,_,_,_,_⟩:=X'.out.all
  repeat any_goals (first|(go_at_call 8;with_reducible refine (C.out.T _ hB3).mono ?_;rintro e w5 ⟨rfl,hb5⟩;have X5:=Lib.hid (X3.out.below hb5);have Y5:=Lib.hid (X'.out.below hb5);obtain ⟨_,_,_,_,_,_,_,_,_,_⟩:=X5.out.all)|(go_at_call 9;with_reducible refine (C.out.V _ _ _ _ _ (below_trans hB3 hb5) (C.out.pv _ _ _ _ HPV3.out hb5) (VT.In.below hb5 _ I3.out)).mono ?_;rintro e w6 ⟨rfl,hb6⟩;have Y6:=Lib.hid (Y5.out.below hb6);obtain ⟨_,_,_,_,_,_,_,_,_,_⟩:=Y6.out.all)|(go_at_call 9;with_reducible refine (C.out.U _ _ _ _ _ (below_trans hB3 (below_trans hb5 hb6)) (C.out.pv _ _ _ _ (C.out.pv _ _ _ _ HPV3.out hb5) hb6) (VT.In.below hb6 _ (VT.In.below hb5 _ I'.out))).mono ?_;rintro e w7 ⟨rfl,hb7⟩)|go_skip|go_guarded|go_step|go_upon|(dsimp only []))
  all_goals exact bodyPost_ret (v:=.bool true) (by simp [results,Tryd.results3,go_sem]) rfl ⟨rfl,below_trans hB3 (below_trans hb5 (below_trans hb6 hb7))⟩
/-- **PvalidNumbers** -/
theorem PvalidNumbers_any (n:Int) (U:Nat) (wh:Int) (w:World) (h0 : -9223372036854775808≤n) (h1:n < 9223372036854775808) (u1:U < 18446744073709551616) (_k0 : -9223372036854775808≤wh) (_k1:wh < 9223372036854775808) (hU:U8T w) (hT:Tab w) :
    Calls Tryd.prog 3 #[.int .i64 n,.int .u64 (U:Int),.int .i64 wh] w fun e w'=>e=.returned (.bool true)∧Below w.heap.size w w':=by
  have CN:=Lib.hid fun wr:World=>OfInt_at n h0 h1 wr
  have CU:=Lib.hid fun wr:World=>OfUint_at U u1 wr
  have hvn:ab n < 2 ^ 256:=by unfold ab;omega
  have hvu:U < 2 ^ 256:=by omega
  have CT:∀ wr:World,Below w.heap.size w wr→Calls Tryd.prog 8 #[] wr fun e w'=>e=.returned (.bool true)∧Below wr.heap.size wr w':=fun wr hx=>told23_any wr (Utf8Tabs_below hU hx) (hT.below hx)
  have key:∀ (S T:ByteArray) (lo hi:Int),S.size≤8192→loadR S=some (numL T)→(∀ A,checkB (pmsOf (numL T) A) 1=true)→(∀ (A:Nat→Ad6) (a b:Nat) (neg:Bool) (V:Nat),mayI neg V=true→validB (pmsOf (numL T) A) 1 (recX a b (flatV 3 neg V 0 ⟨#[]⟩))=(decide (lo≤zI neg V) && decide (zI neg V≤hi))) →
      NmC0 w n U (sg n) false (ab n) U S (fun wx a c=>∃ A,PL wx a 1 c (pmsOf (numL T) A)) (decide (lo≤n) && decide (n≤hi)) (decide (lo≤(U:Int)) && decide ((U:Int)≤hi)):=by
    intro S T lo hi hS hR hC hV
    refine ⟨CT,fun wr=>(RLoad_any S hS wr).mono fun e w' h=>?_,fun wr wx a c ⟨A,h⟩ hx=>⟨A,h.below hx⟩,fun wx a c g h hx ⟨A,hA⟩ hi=>?_,fun wx a c g h hx ⟨A,hA⟩ hi=>?_⟩
    · rcases h with ⟨hb,⟨h1,-⟩|⟨l,a,c,A,h1,h2,h3⟩⟩
      · rw [hR] at h1;cases h1
      · rw [hR] at h1
        injection h1 with h1
        subst h1
        rcases h3 with ⟨-,h4⟩|⟨h4,-⟩
        · exact ⟨a,c,h4,⟨A,h2⟩,hb⟩
        · exact absurd (show checkI (pmsOf (numL T) A) 1=0 by unfold checkI;rw [hC A];rfl) h4
    · have h:=PValidM_any (pmsOf (numL T) A) a 1 c _ wx hA hi (Utf8Tabs_below hU hx) (hT.below hx) (show (2:Nat) < 4611686018427387904 by decide)
      rw [hV _ _ _ _ _ (mayI_sgz n),zI_sgz] at h
      exact h
    · have h:=PValidM_any (pmsOf (numL T) A) a 1 c _ wx hA hi (Utf8Tabs_below hU hx) (hT.below hx) (show (2:Nat) < 4611686018427387904 by decide)
      rw [hV _ _ _ _ _ (show mayI false U=true from rfl),show zI false U=(U:Int) from rfl] at h
      exact h
  have hb:(wrap64 ((IntKind.u64.wrap wh).tmod 6)=0∨wrap64 ((IntKind.u64.wrap wh).tmod 6)=1∨wrap64 ((IntKind.u64.wrap wh).tmod 6)=2∨wrap64 ((IntKind.u64.wrap wh).tmod 6)=3∨wrap64 ((IntKind.u64.wrap wh).tmod 6)=4∨wrap64 ((IntKind.u64.wrap wh).tmod 6)=5):=by
    rw [IntKind.wrap_u64,Int.tmod_eq_emod_of_nonneg (by omega)]
    simp only [wrap64]
    omega
  rcases hb with hq|hq|hq|hq|hq|hq
  · have K:=key _ _ _ _ (by decide) nm_read0 nm_check0 nm_valid0
    rw [show (decide ((-2147483648:Int)≤n) && decide (n≤2147483647))=(decide (-2147483648≤n) && decide (n < 2147483648)) from by rw [Bool.eq_iff_iff];simp only [Bool.and_eq_true,decide_eq_true_eq];omega,show (decide ((-2147483648:Int)≤(U:Int)) && decide ((U:Int)≤2147483647))=(decide ((U:Int) < 2147483648)) from by rw [Bool.eq_iff_iff];simp only [Bool.and_eq_true,decide_eq_true_eq];omega] at K
    exact Nm_go0 n U wh (sg n) false (ab n) U _ _ rfl (by decide) (by kernel_rfl) hq _ _ _ rfl rfl hvn hvu w CN CU (Lib.hid K)
  · have K:=key _ _ _ _ (by decide) nm_read1 nm_check1 nm_valid1
    rw [show (decide ((-2147483648:Int)≤n) && decide (n≤2147483647))=(decide (-2147483648≤n) && decide (n < 2147483648)) from by rw [Bool.eq_iff_iff];simp only [Bool.and_eq_true,decide_eq_true_eq];omega,show (decide ((-2147483648:Int)≤(U:Int)) && decide ((U:Int)≤2147483647))=(decide ((U:Int) < 2147483648)) from by rw [Bool.eq_iff_iff];simp only [Bool.and_eq_true,decide_eq_true_eq];omega] at K
    exact Nm_go1 n U wh (sg n) false (ab n) U _ _ rfl (by decide) (by kernel_rfl) hq _ _ _ rfl rfl hvn hvu w CN CU (Lib.hid K)
  · have K:=key _ _ _ _ (by decide) nm_read2 nm_check2 nm_valid2
    rw [show (decide ((-9223372036854775808:Int)≤n) && decide (n≤9223372036854775807))=(true) from by rw [decide_eq_true (by omega),decide_eq_true (by omega)];rfl,show (decide ((-9223372036854775808:Int)≤(U:Int)) && decide ((U:Int)≤9223372036854775807))=(decide ((U:Int) < 9223372036854775808)) from by rw [Bool.eq_iff_iff];simp only [Bool.and_eq_true,decide_eq_true_eq];omega] at K
    exact Nm_go2 n U wh (sg n) false (ab n) U _ _ rfl (by decide) (by kernel_rfl) hq _ _ _ rfl rfl hvn hvu w CN CU (Lib.hid K)
  · have K:=key _ _ _ _ (by decide) nm_read3 nm_check3 nm_valid3
    rw [show (decide ((-9223372036854775808:Int)≤n) && decide (n≤9223372036854775807))=(true) from by rw [decide_eq_true (by omega),decide_eq_true (by omega)];rfl,show (decide ((-9223372036854775808:Int)≤(U:Int)) && decide ((U:Int)≤9223372036854775807))=(decide ((U:Int) < 9223372036854775808)) from by rw [Bool.eq_iff_iff];simp only [Bool.and_eq_true,decide_eq_true_eq];omega] at K
    exact Nm_go3 n U wh (sg n) false (ab n) U _ _ rfl (by decide) (by kernel_rfl) hq _ _ _ rfl rfl hvn hvu w CN CU (Lib.hid K)
  · have K:=key _ _ _ _ (by decide) nm_read4 nm_check4 nm_valid4
    rw [show (decide ((0:Int)≤n) && decide (n≤4294967295))=(decide (0≤n) && decide (n < 4294967296)) from by rw [Bool.eq_iff_iff];simp only [Bool.and_eq_true,decide_eq_true_eq];omega,show (decide ((0:Int)≤(U:Int)) && decide ((U:Int)≤4294967295))=(decide ((U:Int) < 4294967296)) from by rw [Bool.eq_iff_iff];simp only [Bool.and_eq_true,decide_eq_true_eq];omega] at K
    exact Nm_go4 n U wh (sg n) false (ab n) U _ _ rfl (by decide) (by kernel_rfl) hq _ _ _ rfl rfl hvn hvu w CN CU (Lib.hid K)
  · have K:=key _ _ _ _ (by decide) nm_read5 nm_check5 nm_valid5
    rw [show (decide ((0:Int)≤n) && decide (n≤18446744073709551615))=(decide (0≤n)) from by rw [Bool.eq_iff_iff];simp only [Bool.and_eq_true,decide_eq_true_eq];omega,show (decide ((0:Int)≤(U:Int)) && decide ((U:Int)≤18446744073709551615))=(true) from by rw [decide_eq_true (by omega),decide_eq_true (by omega)];rfl] at K
    exact Nm_go5 n U wh (sg n) false (ab n) U _ _ rfl (by decide) (by kernel_rfl) hq _ _ _ rfl rfl hvn hvu w CN CU (Lib.hid K)
end Go.Proofs.YtfondldmmcmloaaDoor
