/- VLong, VDep. -/
import Derived.Shelf.Abstract
import Derived.Test.YtfondldmmcmloaaGreatDoorPb3
set_option maxRecDepth 1000000
set_option maxHeartbeats 8000000
namespace Go.Proofs.YtfondldmmcmloaaGreatDoor
open Go Go.RowKit
theorem z9zk1 {p:Prop} (h:p:=by
 go_enter Tryz.func48,Tryz.ntmps48
 repeat any_goals (first|go_skip|go_guarded|go_step|go_upon|(simp only [];done))
 exact bodyPost_ret (v:=.bool true) (by simp [results,Tryz.results48,go_sem]) rfl ⟨rfl,zb2⟩):p:=h
theorem z9zk2 {p:Prop} (h:p:=by
 go_enter Tryz.func26,Tryz.ntmps26
 repeat any_goals (first|go_skip|go_guarded|go_step|go_upon|(simp only [];done))
 exact bodyPost_ret (v:=.bool true) (by simp [results,Tryz.results26,go_sem]) rfl ⟨rfl,zb2⟩):p:=h
theorem z9zk3 {p:Prop} (h:p:=by
 go_roundw
 case rel=>
  refine ⟨k+1,by omega,rfl,?_,keep_cell hb1 (keep_cell (w1:=wr) zb2 h8),zb2⟩
  rw [HD.out]
  simp only [maxN]
  rw [← HX.out]
  congr 1
  omega
 case measure=>simp [intOf];omega):p:=h
theorem z9zk4 {p:Prop} (h:p:=by
 go_roundw
 case rel=>
  refine ⟨k+1,by omega,rfl,?_,keep_cell hb1 (keep_cell (w1:=wr) zb2 h8),zb2⟩
  rw [HD.out]
  simp only [sumN]
  rw [← HX.out]
  congr 1
  omega
 case measure=>simp [intOf];omega):p:=h
end Go.Proofs.YtfondldmmcmloaaGreatDoor
namespace Go.Proofs.YtfondldmmcmloaaGreatDoor
open Go.RowKit
def VT.long:VT→Bool
 | .nil=>false
 | .mk _ _ _ _ text _ nL _ kids _ nK _ keys=>if 1000 < nL∨1000 < nK∨4096 < text.size then true else if anyN (fun i=>decide (4096 < (keys i).size)) nK=true then true else anyN (fun i=>(kids i).long) nL
theorem long1_any (s:ByteArray) (w:World) (hs:s.size≤maxLen):Calls Tryz.prog 74 #[.string s] w fun e w'=>e=.returned (.bool (decide (4096 < s.size)))∧Below w.heap.size w w':=by
 simp only [maxLen] at hs
 by_cases c:4096 < s.size
 ·have ci:(4096:Int) < (s.size:Int):=by omega
  rw [decide_eq_true c]
  go_enter Tryz.func74,Tryz.ntmps74
  repeat any_goals (first|go_skip|go_guarded|go_step|go_upon|(simp only [];done))
  exact bodyPost_ret (v:=.bool true) (by simp [results,Tryz.results74,go_sem]) rfl ⟨rfl,zb2⟩
 ·have ci:¬ (4096:Int) < (s.size:Int):=by omega
  rw [decide_eq_false c]
  go_enter Tryz.func74,Tryz.ntmps74
  repeat any_goals (first|go_skip|go_guarded|go_step|go_upon|(simp only [];done))
  exact bodyPost_ret (v:=.bool false) (by simp [results,Tryz.results74,go_sem]) rfl ⟨rfl,zb2⟩
theorem eg_long1 (args:Array Value) (W:World):(callFunc 74 args).run Tryz.prog W=.ok (.enter 74 args) W:=enters_of Tryz.func74 z0a rfl args W
theorem eg_long (args:Array Value) (W:World):(callFunc 48 args).run Tryz.prog W=.ok (.enter 48 args) W:=enters_of Tryz.func48 z0a rfl args W
theorem Long_any:∀ (T:VT) (w:World),T.In w→Calls Tryz.prog 48 #[T.agg] w fun e w'=>e=.returned (.bool T.long)∧Below w.heap.size w w':=by
 intro T
 induction T with
 | nil=>exact fun w h=>h.elim
 | mk kind neg V bits text aL nL cL kids aK nK cK keys ih=>
  intro w hin
  obtain ⟨o,hL,hk,hKy⟩:=hin
  simp only [VT.agg,VT.cells,VT.long]
  obtain ⟨R,hR⟩:∃ R,R=(if 1000 < nL∨1000 < nK∨4096 < text.size then true else if anyN (fun i=>decide (4096 < (keys i).size)) nK=true then true else anyN (fun i=>(kids i).long) nL):=⟨_,rfl⟩
  rw [← hR]
  have HL:=Lib.hid hL
  have HK:=Lib.hid hk
  have HKy:=Lib.hid hKy
  have HR:=Lib.hid hR
  have IH:=Lib.hid ih
  have hcL:=o.lc
  have hlL:=o.l
  have hcK:=o.nc
  have hlK:=o.n
  have ht:=o.t
  clear hL hk hR ih hKy
  simp only [maxLen] at hcL hcK ht
  by_cases c1:1000 < nL
  ·have e:=HR.out
   rw [if_pos (.inl c1)] at e
   subst e
   have c1i:(1000:Int) < (nL:Int):=by omega
   exact z9zk1
  have c1i:¬ (1000:Int) < (nL:Int):=by omega
  by_cases c2:1000 < nK
  ·have e:=HR.out
   rw [if_pos (.inr (.inl c2))] at e
   subst e
   have c2i:(1000:Int) < (nK:Int):=by omega
   exact z9zk1
  have c2i:¬ (1000:Int) < (nK:Int):=by omega
  by_cases c3:4096 < text.size
  ·have e:=HR.out
   rw [if_pos (.inr (.inr c3))] at e
   subst e
   have c3i:(4096:Int) < (text.size:Int):=by omega
   exact z9zk1
  have c3i:¬ (4096:Int) < (text.size:Int):=by omega
  have e:=HR.out
  rw [if_neg z0c] at e
  clear c1 c2 c3
  obtain ⟨x,hx⟩:∃ x,x=anyN (fun i=>decide (4096 < (keys i).size)) nK:=⟨_,rfl⟩
  obtain ⟨y,hy⟩:∃ x,x=anyN (fun i=>(kids i).long) nL:=⟨_,rfl⟩
  have hC1:∀ wr:World,Below w.heap.size w wr→Calls Tryz.prog 69 #[.slice aK nK cK,.func (.func 74) #[] #[]] wr fun e w'=>e=.returned (.bool x)∧Below wr.heap.size wr w':=fun wr hb=>by
   rw [hx]
   refine ContK_any _ eg_long1 _ aK nK cK keys wr (by simp only [maxLen];exact hcK) hlK ?_ fun i hi w' hb'=>long1_any _ _ ?_
   ·rcases HKy.out with h|⟨b,off,h1,h2,h3⟩
    ·exact .inl h
    ·exact .inr ⟨b,off,h1,Nat.lt_of_lt_of_le h2 hb.size,fun i hi=>⟨by rw [hb.cell (p:=⟨b,off+i,none⟩) h2];exact (h3 i hi).1,(h3 i hi).2⟩⟩
   ·rcases HKy.out with h|⟨b,off,h1,h2,h3⟩
    ·omega
    ·exact (h3 i hi).2
  have hC2:∀ wr:World,Below w.heap.size w wr→Calls Tryz.prog 75 #[.slice aL nL cL,.func (.func 48) #[] #[]] wr fun e w'=>e=.returned (.bool y)∧Below wr.heap.size wr w':=fun wr hb=>by
   rw [hy]
   refine ContV_any _ eg_long _ aL nL cL kids wr (by simp only [maxLen];exact hcL) hlL ?_ (fun i hi=>(HK.out i hi).below hb) fun i hi w' hb'=>IH.out i w' (((HK.out i hi).below hb).below hb')
   rcases HL.out with h|⟨b,off,h1,h2,h3⟩
   ·exact .inl h
   ·exact .inr ⟨b,off,h1,Nat.lt_of_lt_of_le h2 hb.size,fun i hi j hj=>by rw [hb.cell (p:=⟨b,off+i * 10+j,none⟩) h2];exact h3 i hi j hj⟩
  rw [← hx,← hy] at e
  clear hx hy HL HK HKy HR IH
  have C1:=Lib.hid hC1
  have C2:=Lib.hid hC2
  clear hC1 hC2
  cases x with
  | true=>
   rw [if_pos rfl] at e
   subst e
   go_enter Tryz.func48,Tryz.ntmps48
   repeat any_goals (first|(go_at_call 69;refine (C1.out _ zb2).mono ?_;rintro e w1 ⟨rfl,hb1⟩)|go_skip|go_guarded|go_step|go_upon|(dsimp only []))
   exact bodyPost_ret (v:=.bool true) (by simp [results,Tryz.results48,go_sem]) rfl ⟨rfl,zb2⟩
  | false=>
   rw [if_neg Bool.false_ne_true] at e
   subst e
   go_enter Tryz.func48,Tryz.ntmps48
   repeat any_goals (first|(go_at_call 69;refine (C1.out _ zb2).mono ?_;rintro e w1 ⟨rfl,hb1⟩;have h8:=keep_cell (p:=⟨w.heap.size,8,none⟩) (v:=.slice aL nL cL) hb1 z0z)|(go_at_call 75;refine (C2.out _ zb2).mono ?_;rintro e w2 ⟨rfl,hb2⟩)|go_skip|go_guarded|go_step|go_upon|(dsimp only []))
   exact bodyPost_ret (v:=.bool R) (by simp [results,Tryz.results48,go_sem]) rfl ⟨rfl,zb2⟩
theorem RLong_any:∀ (T:VT) (w:World),T.In w→Calls Tryz.prog 26 #[T.agg] w fun e w'=>e=.returned (.bool T.long)∧Below w.heap.size w w':=by
 intro T
 induction T with
 | nil=>exact fun w h=>h.elim
 | mk kind neg V bits text aL nL cL kids aK nK cK keys ih=>
  intro w hin
  obtain ⟨o,hL,hk,hKy⟩:=hin
  simp only [VT.agg,VT.cells,VT.long]
  obtain ⟨R,hR⟩:∃ R,R=(if 1000 < nL∨1000 < nK∨4096 < text.size then true else if anyN (fun i=>decide (4096 < (keys i).size)) nK=true then true else anyN (fun i=>(kids i).long) nL):=⟨_,rfl⟩
  rw [← hR]
  have HL:=Lib.hid hL
  have HK:=Lib.hid hk
  have HKy:=Lib.hid hKy
  have HR:=Lib.hid hR
  have IH:=Lib.hid ih
  have hcL:=o.lc
  have hlL:=o.l
  have hcK:=o.nc
  have hlK:=o.n
  have ht:=o.t
  clear hL hk hR ih hKy
  simp only [maxLen] at hcL hcK ht
  by_cases c1:1000 < nL
  ·have e:=HR.out
   rw [if_pos (.inl c1)] at e
   subst e
   have c1i:(1000:Int) < (nL:Int):=by omega
   exact z9zk2
  have c1i:¬ (1000:Int) < (nL:Int):=by omega
  by_cases c2:1000 < nK
  ·have e:=HR.out
   rw [if_pos (.inr (.inl c2))] at e
   subst e
   have c2i:(1000:Int) < (nK:Int):=by omega
   exact z9zk2
  have c2i:¬ (1000:Int) < (nK:Int):=by omega
  by_cases c3:4096 < text.size
  ·have e:=HR.out
   rw [if_pos (.inr (.inr c3))] at e
   subst e
   have c3i:(4096:Int) < (text.size:Int):=by omega
   exact z9zk2
  have c3i:¬ (4096:Int) < (text.size:Int):=by omega
  have e:=HR.out
  rw [if_neg z0c] at e
  have HE:=Lib.hid e
  clear c1 c2 c3 e
  go_enter Tryz.func26,Tryz.ntmps26
  repeat any_goals (first|go_skip|go_guarded|go_step|go_upon|(simp only [];done))
  obtain ⟨wo,hwo⟩:∃ wo,wo=w.alloc (.cells #[.int .i64 kind,.bool neg,.int .u64 (lm V 0:Nat),.int .u64 (lm V 1:Nat),.int .u64 (lm V 2:Nat),.int .u64 (lm V 3:Nat),.int .u64 (bits:Nat),.string text,.slice aL nL cL,.slice aK nK cK] 31):=⟨_,rfl⟩
  have hBo:Below w.heap.size w wo:=by rw [hwo];exact zb2
  have h8:wo.cell? ⟨w.heap.size,8,none⟩=some (.slice aL nL cL):=by rw [hwo];simp [go_sem]
  have h9:wo.cell? ⟨w.heap.size,9,none⟩=some (.slice aK nK cK):=by rw [hwo];simp [go_sem]
  rw [← hwo]
  clear hwo
  go_loop [3] (fun i=>∃ k:Nat,k≤nK∧i=.int .i64 k∧anyN (fun i=>decide (4096 < (keys i).size)) k=false) (fun i=>nK - (intOf i).toNat)
  case atStart=>exact ⟨0,Nat.zero_le _,rfl,rfl⟩
  case round=>
   obtain ⟨k,hk,rfl,hA⟩:=hrel
   have HA1:=Lib.hid hA
   clear hA
   by_cases hkn:k < nK
   ·obtain ⟨b,off,rfl,hb,hc,hs⟩:=key_lit HKy.out hkn hBo
    simp only [maxLen] at hs
    have i1:(k:Int) < (nK:Int):=by omega
    have i2:(0:Int)≤(k:Int):=by omega
    have i5:(k:Int).toNat=k:=rfl
    by_cases c1:4096 < (keys k).size
    ·have c1i:(4096:Int) < ((keys k).size:Int):=by omega
     have e:=HE.out
     rw [if_pos (anyN_of (p:=fun i=>decide (4096 < (keys i).size)) (decide_eq_true c1) hkn)] at e
     subst e
     repeat any_goals (first|go_skip|go_guarded|go_step|go_upon|(simp only [];done))
     exact bodyPost_ret (v:=.bool true) (by simp [results,Tryz.results26,go_sem]) rfl ⟨rfl,hBo⟩
    ·have c1i:¬ (4096:Int) < ((keys k).size:Int):=by omega
     repeat any_goals (first|go_skip|go_guarded|go_step|go_upon|(simp only [];done))
     go_round
     case rel=>exact ⟨k+1,by omega,rfl,by simp only [anyN];rw [HA1.out,decide_eq_false c1];rfl⟩
     case measure=>simp [intOf];omega
   ·have hk':k=nK:=by omega
    subst hk'
    have i1:¬ (k:Int) < (k:Int):=by omega
    have e:=HE.out
    rw [if_neg (by rw [HA1.out];exact Bool.false_ne_true)] at e
    have HE2:=Lib.hid e
    clear e
    repeat any_goals (first|go_skip|go_guarded|go_step|go_upon|(simp only [];done))
    go_loopw [4] (fun i wr=>∃ j:Nat,j≤nL∧i=.int .i64 j∧anyN (fun i=>(kids i).long) j=false∧wr.cell? ⟨w.heap.size,8,none⟩=some (.slice aL nL cL)∧Below w.heap.size w wr) (fun i _=>nL - (intOf i).toNat)
    case atStart=>exact ⟨0,Nat.zero_le _,rfl,rfl,h8,hBo⟩
    case round=>
     obtain ⟨j,hj,rfl,hA,h8,hW⟩:=hrel
     have HA2:=Lib.hid hA
     clear hA
     by_cases hjn:j < nL
     ·obtain ⟨b,off,kind',neg',V',bits',text',aL',nL',cL',kids',aK',nK',cK',keys',rfl,hb,hkid,⟨c0,c1,c2,c3,c4,c5,c6,c7,c8,c9⟩,hin'⟩:=kid_lit HL.out HK.out hjn hW
      have i1:(j:Int) < (nL:Int):=by omega
      have i2:(0:Int)≤(j:Int):=by omega
      have i5:(j:Int).toNat=j:=rfl
      obtain ⟨x,hx⟩:∃ x:Bool,x=(kids j).long:=⟨_,rfl⟩
      have HC:∀ w'':World,Below wr.heap.size wr w''→Calls Tryz.prog 26 #[(kids j).agg] w'' fun e w'=>e=.returned (.bool x)∧Below w''.heap.size w'' w':=fun w'' hb=>by
       have:=IH.out j w'' (hin'.below hb)
       rwa [← hx] at this
      rw [hkid] at HC
      simp only [VT.agg,VT.cells] at HC
      have HC:=Lib.hid HC
      have HX:=Lib.hid hx
      clear hin' hkid hx
      cases x with
      | true=>
       have e:=HE2.out
       rw [anyN_of (p:=fun i=>(kids i).long) HX.out.symm hjn] at e
       subst e
       repeat any_goals (first|(go_at_call 26;refine (HC.out _ zb2).mono ?_;rintro e w1 ⟨rfl,hb1⟩)|go_skip|go_guarded|go_step|go_upon|(dsimp only []))
       exact bodyPost_ret (v:=.bool true) (by simp [results,Tryz.results26,go_sem]) rfl ⟨rfl,zb2⟩
      | false=>
       repeat any_goals (first|(go_at_call 26;refine (HC.out _ zb2).mono ?_;rintro e w1 ⟨rfl,hb1⟩)|go_skip|go_guarded|go_step|go_upon|(dsimp only []))
       go_roundw
       case rel=>exact ⟨j+1,by omega,rfl,by simp only [anyN];rw [HA2.out,← HX.out];rfl,keep_cell hb1 (keep_cell (w1:=wr) zb2 h8),zb2⟩
       case measure=>simp [intOf];omega
     ·have hj':j=nL:=by omega
      subst hj'
      have i1:¬ (j:Int) < (j:Int):=by omega
      have e:R=false:=by rw [HE2.out,HA2.out]
      subst e
      repeat any_goals (first|go_skip|go_guarded|go_step|go_upon|(simp only [];done))
      exact bodyPost_ret (v:=.bool false) (by simp [results,Tryz.results26,go_sem]) rfl ⟨rfl,hW⟩
theorem Depth_any:∀ (T:VT) (w:World),T.In w→T.nodes < 4611686018427387904 →
  Calls Tryz.prog 46 #[T.agg] w fun e w'=>e=.returned (.int .i64 (T.depth:Nat))∧Below w.heap.size w w':=by
 intro T
 induction T with
 | nil=>exact fun w h=>h.elim
 | mk kind neg V bits text aL nL cL kids aK nK cK keys ih=>
  intro w hin hN
  obtain ⟨o,hL,hk,-⟩:=hin
  simp only [VT.agg,VT.cells]
  obtain ⟨D,hD⟩:∃ D:Nat→Nat,D=fun n=>maxN (fun i=>(kids i).depth) n:=⟨_,rfl⟩
  have hDB:D nL < 4611686018427387904:=by
   rw [hD]
   exact Nat.lt_of_le_of_lt (maxN_sumN (fun i=>VT.depth_nodes (kids i)) nL) (VT.nodes_sum hN (Nat.le_refl _))
  have HL:=Lib.hid hL
  have HK:=Lib.hid hk
  have HD:=Lib.hid hD
  have HB:=Lib.hid hDB
  have IH:=Lib.hid ih
  have hcL:=o.lc
  have hlL:=o.l
  clear hL hk hD hDB ih
  simp only [maxLen] at hcL
  go_enter Tryz.func46,Tryz.ntmps46
  repeat any_goals (first|go_skip|go_guarded|go_step|go_upon|(simp only [];done))
  go_loopw [3,9] (fun n i wr=>∃ k:Nat,k≤nL∧i=.int .i64 k∧n=.int .i64 (D k:Nat)∧wr.cell? ⟨w.heap.size,8,none⟩=some (.slice aL nL cL)∧Below w.heap.size w wr) (fun _ i _=>nL - (intOf i).toNat)
  case atStart=>
   refine ⟨0,Nat.zero_le _,rfl,by rw [HD.out];rfl,by simp [go_sem],zb2⟩
  case round=>
   obtain ⟨k,hk,rfl,rfl,h8,hW⟩:=hrel
   by_cases hkn:k < nL
   ·obtain ⟨b,off,kind',neg',V',bits',text',aL',nL',cL',kids',aK',nK',cK',keys',rfl,hb,hkid,⟨c0,c1,c2,c3,c4,c5,c6,c7,c8,c9⟩,hin'⟩:=kid_lit HL.out HK.out hkn hW
    have i1:(k:Int) < (nL:Int):=by omega
    have i2:(0:Int)≤(k:Int):=by omega
    have i5:(k:Int).toNat=k:=rfl
    obtain ⟨x,hx⟩:∃ x:Nat,x=(kids k).depth:=⟨_,rfl⟩
    have HC:∀ w'':World,Below wr.heap.size wr w''→Calls Tryz.prog 46 #[(kids k).agg] w'' fun e w'=>e=.returned (.int .i64 (x:Nat))∧Below w''.heap.size w'' w':=fun w'' hb=>by
     have:=IH.out k w'' (hin'.below hb) (VT.nodes_kid hN hkn)
     rwa [← hx] at this
    rw [hkid] at HC
    simp only [VT.agg,VT.cells] at HC
    have HC:=Lib.hid HC
    have HX:=Lib.hid hx
    clear hin' hkid hx
    repeat any_goals (first|(go_at_call 46;refine (HC.out _ zb2).mono ?_;rintro e w1 ⟨rfl,hb1⟩)|go_skip|go_guarded|go_step|go_upon|(dsimp only []))
    exact z9zk3
   ·have hk':k=nL:=by omega
    subst hk'
    have i1:¬ (k:Int) < (k:Int):=by omega
    have i2:=HB.out
    repeat any_goals (first|go_skip|go_guarded|go_step|go_upon|(simp only [];done))
    exact bodyPost_ret (v:=.int .i64 (D k+1:Nat)) (by simp [results,Tryz.results46,go_sem]) rfl ⟨by simp only [VT.depth];rw [HD.out],zb2⟩
theorem RDepth_any:∀ (T:VT) (w:World),T.In w→T.nodes < 4611686018427387904 →
  Calls Tryz.prog 25 #[T.agg] w fun e w'=>e=.returned (.int .i64 (T.depth:Nat))∧Below w.heap.size w w':=by
 intro T
 induction T with
 | nil=>exact fun w h=>h.elim
 | mk kind neg V bits text aL nL cL kids aK nK cK keys ih=>
  intro w hin hN
  obtain ⟨o,hL,hk,-⟩:=hin
  simp only [VT.agg,VT.cells]
  obtain ⟨D,hD⟩:∃ D:Nat→Nat,D=fun n=>maxN (fun i=>(kids i).depth) n:=⟨_,rfl⟩
  have hDB:D nL < 4611686018427387904:=by
   rw [hD]
   exact Nat.lt_of_le_of_lt (maxN_sumN (fun i=>VT.depth_nodes (kids i)) nL) (VT.nodes_sum hN (Nat.le_refl _))
  have HL:=Lib.hid hL
  have HK:=Lib.hid hk
  have HD:=Lib.hid hD
  have HB:=Lib.hid hDB
  have IH:=Lib.hid ih
  have hcL:=o.lc
  have hlL:=o.l
  clear hL hk hD hDB ih
  simp only [maxLen] at hcL
  go_enter Tryz.func25,Tryz.ntmps25
  repeat any_goals (first|go_skip|go_guarded|go_step|go_upon|(simp only [];done))
  go_loopw [3,4] (fun n i wr=>∃ k:Nat,k≤nL∧i=.int .i64 k∧n=.int .i64 (D k:Nat)∧wr.cell? ⟨w.heap.size,8,none⟩=some (.slice aL nL cL)∧Below w.heap.size w wr) (fun _ i _=>nL - (intOf i).toNat)
  case atStart=>
   refine ⟨0,Nat.zero_le _,rfl,by rw [HD.out];rfl,by simp [go_sem],zb2⟩
  case round=>
   obtain ⟨k,hk,rfl,rfl,h8,hW⟩:=hrel
   by_cases hkn:k < nL
   ·obtain ⟨b,off,kind',neg',V',bits',text',aL',nL',cL',kids',aK',nK',cK',keys',rfl,hb,hkid,⟨c0,c1,c2,c3,c4,c5,c6,c7,c8,c9⟩,hin'⟩:=kid_lit HL.out HK.out hkn hW
    have i1:(k:Int) < (nL:Int):=by omega
    have i2:(0:Int)≤(k:Int):=by omega
    have i5:(k:Int).toNat=k:=rfl
    obtain ⟨x,hx⟩:∃ x:Nat,x=(kids k).depth:=⟨_,rfl⟩
    have HC:∀ w'':World,Below wr.heap.size wr w''→Calls Tryz.prog 25 #[(kids k).agg] w'' fun e w'=>e=.returned (.int .i64 (x:Nat))∧Below w''.heap.size w'' w':=fun w'' hb=>by
     have:=IH.out k w'' (hin'.below hb) (VT.nodes_kid hN hkn)
     rwa [← hx] at this
    rw [hkid] at HC
    simp only [VT.agg,VT.cells] at HC
    have HC:=Lib.hid HC
    have HX:=Lib.hid hx
    clear hin' hkid hx
    repeat any_goals (first|(go_at_call 25;refine (HC.out _ zb2).mono ?_;rintro e w1 ⟨rfl,hb1⟩)|go_skip|go_guarded|go_step|go_upon|(dsimp only []))
    exact z9zk3
   ·have hk':k=nL:=by omega
    subst hk'
    have i1:¬ (k:Int) < (k:Int):=by omega
    have i2:=HB.out
    repeat any_goals (first|go_skip|go_guarded|go_step|go_upon|(simp only [];done))
    exact bodyPost_ret (v:=.int .i64 (D k+1:Nat)) (by simp [results,Tryz.results25,go_sem]) rfl ⟨by simp only [VT.depth];rw [HD.out],zb2⟩
theorem Nodes_any:∀ (T:VT) (w:World),T.In w→T.nodes < 4611686018427387904 →
  Calls Tryz.prog 47 #[T.agg] w fun e w'=>e=.returned (.int .i64 (T.nodes:Nat))∧Below w.heap.size w w':=by
 intro T
 induction T with
 | nil=>exact fun w h=>h.elim
 | mk kind neg V bits text aL nL cL kids aK nK cK keys ih=>
  intro w hin hN
  obtain ⟨o,hL,hk,-⟩:=hin
  simp only [VT.agg,VT.cells]
  obtain ⟨D,hD⟩:∃ D:Nat→Nat,D=fun n=>1+sumN (fun i=>(kids i).nodes) n:=⟨_,rfl⟩
  have hDB:∀ k,k≤nL→D k < 4611686018427387905:=fun k hk=>by
   rw [hD]
   have:=VT.nodes_sum hN hk
   show 1+sumN (fun i=>(kids i).nodes) k < _
   omega
  have HL:=Lib.hid hL
  have HK:=Lib.hid hk
  have HD:=Lib.hid hD
  have HB:=Lib.hid hDB
  have IH:=Lib.hid ih
  have hcL:=o.lc
  have hlL:=o.l
  clear hL hk hD hDB ih
  simp only [maxLen] at hcL
  go_enter Tryz.func47,Tryz.ntmps47
  repeat any_goals (first|go_skip|go_guarded|go_step|go_upon|(simp only [];done))
  go_loopw [3,9] (fun n i wr=>∃ k:Nat,k≤nL∧i=.int .i64 k∧n=.int .i64 (D k:Nat)∧wr.cell? ⟨w.heap.size,8,none⟩=some (.slice aL nL cL)∧Below w.heap.size w wr) (fun _ i _=>nL - (intOf i).toNat)
  case atStart=>
   refine ⟨0,Nat.zero_le _,rfl,by rw [HD.out];rfl,by simp [go_sem],zb2⟩
  case round=>
   obtain ⟨k,hk,rfl,rfl,h8,hW⟩:=hrel
   by_cases hkn:k < nL
   ·obtain ⟨b,off,kind',neg',V',bits',text',aL',nL',cL',kids',aK',nK',cK',keys',rfl,hb,hkid,⟨c0,c1,c2,c3,c4,c5,c6,c7,c8,c9⟩,hin'⟩:=kid_lit HL.out HK.out hkn hW
    have i1:(k:Int) < (nL:Int):=by omega
    have i2:(0:Int)≤(k:Int):=by omega
    have i5:(k:Int).toNat=k:=rfl
    obtain ⟨x,hx⟩:∃ x:Nat,x=(kids k).nodes:=⟨_,rfl⟩
    have hxB:x < 4611686018427387904:=hx ▸ VT.nodes_kid hN hkn
    have hkB:=HB.out k z0c
    have HC:∀ w'':World,Below wr.heap.size wr w''→Calls Tryz.prog 47 #[(kids k).agg] w'' fun e w'=>e=.returned (.int .i64 (x:Nat))∧Below w''.heap.size w'' w':=fun w'' hb=>by
     have:=IH.out k w'' (hin'.below hb) (VT.nodes_kid hN hkn)
     rwa [← hx] at this
    rw [hkid] at HC
    simp only [VT.agg,VT.cells] at HC
    have HC:=Lib.hid HC
    have HX:=Lib.hid hx
    clear hin' hkid hx
    repeat any_goals (first|(go_at_call 47;refine (HC.out _ zb2).mono ?_;rintro e w1 ⟨rfl,hb1⟩)|go_skip|go_guarded|go_step|go_upon|(dsimp only []))
    exact z9zk4
   ·have hk':k=nL:=by omega
    subst hk'
    have i1:¬ (k:Int) < (k:Int):=by omega
    have i2:=HB.out k (Nat.le_refl _)
    repeat any_goals (first|go_skip|go_guarded|go_step|go_upon|(simp only [];done))
    exact bodyPost_ret (v:=.int .i64 (D k:Nat)) (by simp [results,Tryz.results47,go_sem]) rfl ⟨by simp only [VT.nodes];rw [HD.out];exact congrArg (fun z:Nat=>Ending.returned (.int .i64 (z:Int))) (Nat.add_comm 1 (sumN (fun i=>(kids i).nodes) k)),zb2⟩
theorem RNodes_any:∀ (T:VT) (w:World),T.In w→T.nodes < 4611686018427387904 →
  Calls Tryz.prog 14 #[T.agg] w fun e w'=>e=.returned (.int .i64 (T.nodes:Nat))∧Below w.heap.size w w':=by
 intro T
 induction T with
 | nil=>exact fun w h=>h.elim
 | mk kind neg V bits text aL nL cL kids aK nK cK keys ih=>
  intro w hin hN
  obtain ⟨o,hL,hk,-⟩:=hin
  simp only [VT.agg,VT.cells]
  obtain ⟨D,hD⟩:∃ D:Nat→Nat,D=fun n=>1+sumN (fun i=>(kids i).nodes) n:=⟨_,rfl⟩
  have hDB:∀ k,k≤nL→D k < 4611686018427387905:=fun k hk=>by
   rw [hD]
   have:=VT.nodes_sum hN hk
   show 1+sumN (fun i=>(kids i).nodes) k < _
   omega
  have HL:=Lib.hid hL
  have HK:=Lib.hid hk
  have HD:=Lib.hid hD
  have HB:=Lib.hid hDB
  have IH:=Lib.hid ih
  have hcL:=o.lc
  have hlL:=o.l
  clear hL hk hD hDB ih
  simp only [maxLen] at hcL
  go_enter Tryz.func14,Tryz.ntmps14
  repeat any_goals (first|go_skip|go_guarded|go_step|go_upon|(simp only [];done))
  go_loopw [3,4] (fun n i wr=>∃ k:Nat,k≤nL∧i=.int .i64 k∧n=.int .i64 (D k:Nat)∧wr.cell? ⟨w.heap.size,8,none⟩=some (.slice aL nL cL)∧Below w.heap.size w wr) (fun _ i _=>nL - (intOf i).toNat)
  case atStart=>
   refine ⟨0,Nat.zero_le _,rfl,by rw [HD.out];rfl,by simp [go_sem],zb2⟩
  case round=>
   obtain ⟨k,hk,rfl,rfl,h8,hW⟩:=hrel
   by_cases hkn:k < nL
   ·obtain ⟨b,off,kind',neg',V',bits',text',aL',nL',cL',kids',aK',nK',cK',keys',rfl,hb,hkid,⟨c0,c1,c2,c3,c4,c5,c6,c7,c8,c9⟩,hin'⟩:=kid_lit HL.out HK.out hkn hW
    have i1:(k:Int) < (nL:Int):=by omega
    have i2:(0:Int)≤(k:Int):=by omega
    have i5:(k:Int).toNat=k:=rfl
    obtain ⟨x,hx⟩:∃ x:Nat,x=(kids k).nodes:=⟨_,rfl⟩
    have hxB:x < 4611686018427387904:=hx ▸ VT.nodes_kid hN hkn
    have hkB:=HB.out k z0c
    have HC:∀ w'':World,Below wr.heap.size wr w''→Calls Tryz.prog 14 #[(kids k).agg] w'' fun e w'=>e=.returned (.int .i64 (x:Nat))∧Below w''.heap.size w'' w':=fun w'' hb=>by
     have:=IH.out k w'' (hin'.below hb) (VT.nodes_kid hN hkn)
     rwa [← hx] at this
    rw [hkid] at HC
    simp only [VT.agg,VT.cells] at HC
    have HC:=Lib.hid HC
    have HX:=Lib.hid hx
    clear hin' hkid hx
    repeat any_goals (first|(go_at_call 14;refine (HC.out _ zb2).mono ?_;rintro e w1 ⟨rfl,hb1⟩)|go_skip|go_guarded|go_step|go_upon|(dsimp only []))
    exact z9zk4
   ·have hk':k=nL:=by omega
    subst hk'
    have i1:¬ (k:Int) < (k:Int):=by omega
    have i2:=HB.out k (Nat.le_refl _)
    repeat any_goals (first|go_skip|go_guarded|go_step|go_upon|(simp only [];done))
    exact bodyPost_ret (v:=.int .i64 (D k:Nat)) (by simp [results,Tryz.results14,go_sem]) rfl ⟨by simp only [VT.nodes];rw [HD.out];exact congrArg (fun z:Nat=>Ending.returned (.int .i64 (z:Int))) (Nat.add_comm 1 (sumN (fun i=>(kids i).nodes) k)),zb2⟩
end Go.Proofs.YtfondldmmcmloaaGreatDoor
