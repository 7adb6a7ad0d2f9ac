/- The law PvalidZeros: its walks, types 0 and 1. -/
import Derived.Test.YtfondldmmcmloaaDoorZr0
namespace Go.Proofs.YtfondldmmcmloaaDoor
open Go Go.RowKit
set_option maxRecDepth 20000 in
set_option maxHeartbeats 4000000 in
theorem Zr_go00 (how wh:Int) (q1 q2 q3 p0 p1 p2 p3 r0 r1 r2 r3 S0 S1 S2 S3:ByteArray) (e0b:(⟨#[105,110,116,51,50]⟩:ByteArray) ++ ⟨#[32,120]⟩=p0) (e0c:(⟨#[115,121,110,116,97,120,32,61,32,34,112,114,111,116,111,51,34,59,32,109,101,115,115,97,103,101,32,77,32,123,32]⟩:ByteArray) ++ p0=r0) (e0d:r0 ++ (⟨#[32,61,32,49,59,32,125]⟩:ByteArray)=S0) (e1a:(⟨#[111,112,116,105,111,110,97,108,32]⟩:ByteArray) ++ ⟨#[105,110,116,51,50]⟩=q1) (e1b:q1 ++ (⟨#[32,120]⟩:ByteArray)=p1) (e1c:(⟨#[115,121,110,116,97,120,32,61,32,34,112,114,111,116,111,51,34,59,32,109,101,115,115,97,103,101,32,77,32,123,32]⟩:ByteArray) ++ p1=r1) (e1d:r1 ++ (⟨#[32,61,32,49,59,32,125]⟩:ByteArray)=S1) (e2a:(⟨#[114,101,112,101,97,116,101,100,32]⟩:ByteArray) ++ ⟨#[105,110,116,51,50]⟩=q2) (e2b:q2 ++ (⟨#[32,120]⟩:ByteArray)=p2) (e2c:(⟨#[115,121,110,116,97,120,32,61,32,34,112,114,111,116,111,51,34,59,32,109,101,115,115,97,103,101,32,77,32,123,32]⟩:ByteArray) ++ p2=r2) (e2d:r2 ++ (⟨#[32,61,32,49,59,32,125]⟩:ByteArray)=S2) (e3a:(⟨#[109,97,112,60,115,116,114,105,110,103,44,32]⟩:ByteArray) ++ ⟨#[105,110,116,51,50]⟩=q3) (e3b:q3 ++ (⟨#[62,32,120]⟩:ByteArray)=p3) (e3c:(⟨#[115,121,110,116,97,120,32,61,32,34,112,114,111,116,111,51,34,59,32,109,101,115,115,97,103,101,32,77,32,123,32]⟩:ByteArray) ++ p3=r3) (e3d:r3 ++ (⟨#[32,61,32,49,59,32,125]⟩:ByteArray)=S3)
    (hz:q1.size≤200∧q2.size≤200∧q3.size≤200∧p0.size≤200∧p1.size≤200∧p2.size≤200∧p3.size≤200∧r0.size≤200∧r1.size≤200∧r2.size≤200∧r3.size≤200) (h:Nat) (hl:h < 4) (hh:wrap64 ((IntKind.u64.wrap how).tmod 4)=(h:Int)) (hq:wrap64 ((IntKind.u64.wrap wh).tmod 6)=0) (PV:Nat→World→Option Addr→Nat→Prop) (out:Nat→Bool) (ho:out h=false) (w:World) (C:Hid (ZrC w (flatV 3 false 5 0 ⟨#[]⟩) S0 S1 S2 S3 PV out)) :
    Calls Tryd.prog 4 #[.int .i64 how,.int .i64 wh,.bool false] w fun e w'=>e=.returned (.bool true)∧Below w.heap.size w w':=by
  obtain ⟨zq1,zq2,zq3,zp0,zp1,zp2,zp3,zr0,zr1,zr2,zr3⟩:=hz
  obtain ⟨hi,ehi⟩:∃ hi:Int,(h:Int)=hi:=⟨_,rfl⟩
  rw [ehi] at hh
  have HO:=Lib.hid ho
  have HL:=Lib.hid hl
  have EH:=Lib.hid ehi
  clear ho hl ehi
  go_enter Tryd.func4,Tryd.ntmps4
  go_upto_region 2 with fail
  simp only [hh,hq]
  clear hh hq
  go_upto_region 3 with fail
  go_cut [10] (fun s10 wx=>∃ b:Nat,s10=.slice (some ⟨b,0,none⟩) 6 6∧Hid (TBx wx b 0 1 2 3 4 5 6 7 8 9 (.int .i64 3) (.bool false) (.int .u64 0) (.int .u64 0) (.int .u64 0) (.int .u64 0) (.int .u64 0) (.string ⟨#[]⟩) (.slice none 0 0) (.slice none 0 0))∧Below w.heap.size w wx)
  case first=>
    go_wp2_with fail
    go_meet
    exact ⟨_,rfl,Lib.hid ⟨by simp [go_sem]⟩,by (repeat first|with_reducible exact Below.refl _ _|with_reducible assumption|with_reducible refine Below.drew ?_|with_reducible refine below_alloc ?_ _|((with_reducible refine Below.setCell ?_ ?_ _);rotate_left;(focus (first|with_reducible exact Nat.le_refl _|(simp;done)|(simp;omega)|omega)))|(with_reducible refine below_trans ?_ (by assumption)))⟩
  case rest=>
  obtain ⟨b10,rfl,T10,hb1⟩:=hcut
  generalize wc=w1 at *
  go_upto_region 4 with fail
  go_cut [11] (fun s11 wx=>∃ b:Nat,s11=.slice (some ⟨b,0,none⟩) 6 6∧Hid (TBx wx b 0 1 2 3 4 5 6 7 8 9 (.int .i64 3) (.bool false) (.int .u64 5) (.int .u64 0) (.int .u64 0) (.int .u64 0) (.int .u64 0) (.string ⟨#[]⟩) (.slice none 0 0) (.slice none 0 0))∧Below w1.heap.size w1 wx)
  case first=>
    go_wp2_with fail
    go_meet
    exact ⟨_,rfl,Lib.hid ⟨by simp [go_sem]⟩,by (repeat first|with_reducible exact Below.refl _ _|with_reducible assumption|with_reducible refine Below.drew ?_|with_reducible refine below_alloc ?_ _|((with_reducible refine Below.setCell ?_ ?_ _);rotate_left;(focus (first|with_reducible exact Nat.le_refl _|(simp;done)|(simp;omega)|omega)))|(with_reducible refine below_trans ?_ (by assumption)))⟩
  case rest=>
  obtain ⟨b11,rfl,T11,hb2⟩:=hcut
  generalize wc=w2 at *
  have U10:=Lib.hid (T10.out.below hb2)
  have hB2:=below_trans hb1 hb2
  clear T10 hb1 hb2
  go_upto_region 5 with fail
  go_cut [12,13] (fun s12 s13 wx=>∃ (a:Option Addr) (c:Nat),s12=.slice a 1 c∧s13=.int .i64 0∧Hid (PV h wx a c)∧Below w2.heap.size w2 wx)
  case first=>
    have hl:=HL.out
    have ehi:=EH.out
    rcases (show h=0∨h=1∨h=2∨h=3 by omega) with rfl|rfl|rfl|rfl
    · obtain rfl:0=hi:=ehi
      go_wp2_with (go_at_call 5;with_reducible refine (C.out.L0 _).mono ?_;rintro e w5 ⟨a,c,rfl,hPV,hb5⟩)
      go_meet
      exact ⟨_,_,rfl,rfl,Lib.hid hPV,by (repeat first|with_reducible exact Below.refl _ _|with_reducible assumption|with_reducible refine Below.drew ?_|with_reducible refine below_alloc ?_ _|((with_reducible refine Below.setCell ?_ ?_ _);rotate_left;(focus (first|with_reducible exact Nat.le_refl _|(simp;done)|(simp;omega)|omega)))|(with_reducible refine below_trans ?_ (by assumption)))⟩
    · obtain rfl:1=hi:=ehi
      go_wp2_with (go_at_call 5;with_reducible refine (C.out.L1 _).mono ?_;rintro e w5 ⟨a,c,rfl,hPV,hb5⟩)
      go_meet
      exact ⟨_,_,rfl,rfl,Lib.hid hPV,by (repeat first|with_reducible exact Below.refl _ _|with_reducible assumption|with_reducible refine Below.drew ?_|with_reducible refine below_alloc ?_ _|((with_reducible refine Below.setCell ?_ ?_ _);rotate_left;(focus (first|with_reducible exact Nat.le_refl _|(simp;done)|(simp;omega)|omega)))|(with_reducible refine below_trans ?_ (by assumption)))⟩
    · obtain rfl:2=hi:=ehi
      go_wp2_with (go_at_call 5;with_reducible refine (C.out.L2 _).mono ?_;rintro e w5 ⟨a,c,rfl,hPV,hb5⟩)
      go_meet
      exact ⟨_,_,rfl,rfl,Lib.hid hPV,by (repeat first|with_reducible exact Below.refl _ _|with_reducible assumption|with_reducible refine Below.drew ?_|with_reducible refine below_alloc ?_ _|((with_reducible refine Below.setCell ?_ ?_ _);rotate_left;(focus (first|with_reducible exact Nat.le_refl _|(simp;done)|(simp;omega)|omega)))|(with_reducible refine below_trans ?_ (by assumption)))⟩
    · obtain rfl:3=hi:=ehi
      go_wp2_with (go_at_call 5;with_reducible refine (C.out.L3 _).mono ?_;rintro e w5 ⟨a,c,rfl,hPV,hb5⟩)
      go_meet
      exact ⟨_,_,rfl,rfl,Lib.hid hPV,by (repeat first|with_reducible exact Below.refl _ _|with_reducible assumption|with_reducible refine Below.drew ?_|with_reducible refine below_alloc ?_ _|((with_reducible refine Below.setCell ?_ ?_ _);rotate_left;(focus (first|with_reducible exact Nat.le_refl _|(simp;done)|(simp;omega)|omega)))|(with_reducible refine below_trans ?_ (by assumption)))⟩
  case rest=>
  obtain ⟨a,c,rfl,rfl,HPV,hb3⟩:=hcut
  generalize wc=w3 at *
  have V10:=Lib.hid (U10.out.below hb3)
  have V11:=Lib.hid (T11.out.below hb3)
  have hB3:=below_trans hB2 hb3
  obtain ⟨_,_,_,_,_,_,_,_,_,_⟩:=V11.out.all
  clear T11 U10 hb3 hB2 V10 V11
  go_upto_block 0 with fail
  go_cut [] (fun wx=>∃ (X:VT) (v0 v1 v2 v3 v4 v5 v6 v7 v8 v9:Value),XF h (flatV 3 false 5 0 ⟨#[]⟩) X∧X.cells=[v0,v1,v2,v3,v4,v5,v6,v7,v8,v9]∧Hid (RBx wx w3.heap.size v0 v1 v2 v3 v4 v5 v6 v7 v8 v9)∧Hid (X.In wx)∧Below w3.heap.size w3 wx)
  case first=>
    have hl:=HL.out
    have ehi:=EH.out
    have HF:=fun wx=>flat_of wx 3 5 0 ⟨#[]⟩ (by decide) (by decide) (by decide) (by decide) (by decide)
    rcases (show h=0∨h=1∨h=2∨h=3 by omega) with rfl|rfl|rfl|rfl
    · obtain rfl:0=hi:=ehi
      go_wp2_with fail
      go_meet
      exact ⟨(flatV 3 false 5 0 ⟨#[]⟩),(.int .i64 3),(.bool false),(.int .u64 5),(.int .u64 0),(.int .u64 0),(.int .u64 0),(.int .u64 0),(.string ⟨#[]⟩),(.slice none 0 0),(.slice none 0 0),.inl ⟨.inl rfl,rfl⟩,by kernel_rfl,Lib.hid ⟨by simp [go_sem]⟩,Lib.hid (HF _),by (repeat first|with_reducible exact Below.refl _ _|with_reducible assumption|with_reducible refine Below.drew ?_|with_reducible refine below_alloc ?_ _|((with_reducible refine Below.setCell ?_ ?_ _);rotate_left;(focus (first|with_reducible exact Nat.le_refl _|(simp;done)|(simp;omega)|omega)))|(with_reducible refine below_trans ?_ (by assumption)))⟩
    · obtain rfl:1=hi:=ehi
      go_wp2_with fail
      go_meet
      exact ⟨(flatV 3 false 5 0 ⟨#[]⟩),(.int .i64 3),(.bool false),(.int .u64 5),(.int .u64 0),(.int .u64 0),(.int .u64 0),(.int .u64 0),(.string ⟨#[]⟩),(.slice none 0 0),(.slice none 0 0),.inl ⟨.inr rfl,rfl⟩,by kernel_rfl,Lib.hid ⟨by simp [go_sem]⟩,Lib.hid (HF _),by (repeat first|with_reducible exact Below.refl _ _|with_reducible assumption|with_reducible refine Below.drew ?_|with_reducible refine below_alloc ?_ _|((with_reducible refine Below.setCell ?_ ?_ _);rotate_left;(focus (first|with_reducible exact Nat.le_refl _|(simp;done)|(simp;omega)|omega)))|(with_reducible refine below_trans ?_ (by assumption)))⟩
    · obtain rfl:2=hi:=ehi
      go_wp2_with fail
      go_meet
      exact ⟨arrX (w3.heap.size+1) (flatV 3 false 5 0 ⟨#[]⟩),(.int .i64 7),(.bool false),(.int .u64 0),(.int .u64 0),(.int .u64 0),(.int .u64 0),(.int .u64 0),(.string ⟨#[]⟩),.slice (some ⟨w3.heap.size+1,0,none⟩) 1 1,.slice none 0 0,.inr (.inl ⟨rfl,_,rfl⟩),by kernel_rfl,Lib.hid ⟨by simp [go_sem]⟩,Lib.hid (arr_in (HF _) (by first|(simp;done)|(simp;omega)) (ten_of (v0:=(.int .i64 3)) (v1:=(.bool false)) (v2:=(.int .u64 5)) (v3:=(.int .u64 0)) (v4:=(.int .u64 0)) (v5:=(.int .u64 0)) (v6:=(.int .u64 0)) (v7:=(.string ⟨#[]⟩)) (v8:=(.slice none 0 0)) (v9:=(.slice none 0 0)) ⟨by simp [go_sem]⟩ (by kernel_rfl))),by (repeat first|with_reducible exact Below.refl _ _|with_reducible assumption|with_reducible refine Below.drew ?_|with_reducible refine below_alloc ?_ _|((with_reducible refine Below.setCell ?_ ?_ _);rotate_left;(focus (first|with_reducible exact Nat.le_refl _|(simp;done)|(simp;omega)|omega)))|(with_reducible refine below_trans ?_ (by assumption)))⟩
    · obtain rfl:3=hi:=ehi
      go_wp2_with fail
      go_meet
      exact ⟨mapX (w3.heap.size+2) (w3.heap.size+1) (flatV 3 false 5 0 ⟨#[]⟩),(.int .i64 8),(.bool false),(.int .u64 0),(.int .u64 0),(.int .u64 0),(.int .u64 0),(.int .u64 0),(.string ⟨#[]⟩),.slice (some ⟨w3.heap.size+2,0,none⟩) 1 1,.slice (some ⟨w3.heap.size+1,0,none⟩) 1 1,.inr (.inr ⟨rfl,_,_,rfl⟩),by kernel_rfl,Lib.hid ⟨by simp [go_sem]⟩,Lib.hid (map_in (HF _) (by first|(simp;done)|(simp;omega)) (by first|(simp;done)|(simp;omega)) (ten_of (v0:=(.int .i64 3)) (v1:=(.bool false)) (v2:=(.int .u64 5)) (v3:=(.int .u64 0)) (v4:=(.int .u64 0)) (v5:=(.int .u64 0)) (v6:=(.int .u64 0)) (v7:=(.string ⟨#[]⟩)) (v8:=(.slice none 0 0)) (v9:=(.slice none 0 0)) ⟨by simp [go_sem]⟩ (by kernel_rfl)) (by simp [go_sem])),by (repeat first|with_reducible exact Below.refl _ _|with_reducible assumption|with_reducible refine Below.drew ?_|with_reducible refine below_alloc ?_ _|((with_reducible refine Below.setCell ?_ ?_ _);rotate_left;(focus (first|with_reducible exact Nat.le_refl _|(simp;done)|(simp;omega)|omega)))|(with_reducible refine below_trans ?_ (by assumption)))⟩
  case rest=>
  obtain ⟨X,v0,v1,v2,v3,v4,v5,v6,v7,v8,v9,hX,hc,R4,I4,hb4⟩:=hcut
  generalize wc=w4 at *
  have HX:=Lib.hid hX
  have HC:=Lib.hid hc
  clear hX hc
  have HP4:=Lib.hid (C.out.pv _ _ _ _ _ HPV.out hb4)
  have hB4:=below_trans hB3 hb4
  obtain ⟨_,_,_,_,_,_,_,_,_,_⟩:=R4.out.all
  have l4:=World.block_lt_of_cell? w4 ⟨w3.heap.size,0,none⟩ R4.out.all.1
  have l4:w3.heap.size < w4.heap.size:=l4
  clear HPV hb4 hB3
  go_upto_region 14 with fail
  go_cut [15,88,90] (fun s15 sk sg wx=>∃ Bv g k:Nat,s15=.pointer (some ⟨Bv,0,none⟩)∧sk=.slice (some ⟨k,0,none⟩) 1 1∧sg=.slice (some ⟨g,0,none⟩) 1 1∧Hid (RBx wx Bv (.int .i64 8) (.bool false) (.int .u64 0) (.int .u64 0) (.int .u64 0) (.int .u64 0) (.int .u64 0) (.string ⟨#[]⟩) (.slice (some ⟨g,0,none⟩) 1 1) (.slice (some ⟨k,0,none⟩) 1 1))∧Hid ((recX g k X).In wx)∧Below w4.heap.size w4 wx)
  case first=>
    go_wp2_with fail
    go_meet
    exact ⟨_,_,_,rfl,rfl,rfl,Lib.hid ⟨by simp [go_sem]⟩,Lib.hid (rec_in (VT.In.below (by (repeat first|with_reducible exact Below.refl _ _|with_reducible assumption|with_reducible refine Below.drew ?_|with_reducible refine below_alloc ?_ _|((with_reducible refine Below.setCell ?_ ?_ _);rotate_left;(focus (first|with_reducible exact Nat.le_refl _|(simp;done)|(simp;omega)|omega)))|(with_reducible refine below_trans ?_ (by assumption)))) _ I4.out) (by first|(simp;done)|(simp;omega)) (by first|(simp;done)|(simp;omega)) (ten_of (v0:=v0) (v1:=v1) (v2:=v2) (v3:=v3) (v4:=v4) (v5:=v5) (v6:=v6) (v7:=v7) (v8:=v8) (v9:=v9) ⟨by simp [go_sem]⟩ HC.out) (by simp [go_sem])),by (repeat first|with_reducible exact Below.refl _ _|with_reducible assumption|with_reducible refine Below.drew ?_|with_reducible refine below_alloc ?_ _|((with_reducible refine Below.setCell ?_ ?_ _);rotate_left;(focus (first|with_reducible exact Nat.le_refl _|(simp;done)|(simp;omega)|omega)))|(with_reducible refine below_trans ?_ (by assumption)))⟩
  case rest=>
  obtain ⟨Bv,g,k,rfl,rfl,rfl,R5,I5,hb5⟩:=hcut
  generalize wc=w5 at *
  have HP5:=Lib.hid (C.out.pv _ _ _ _ _ HP4.out hb5)
  have hB5:=below_trans hB4 hb5
  obtain ⟨_,_,_,_,_,_,_,_,_,_⟩:=R5.out.all
  clear R4 I4 l4 HP4 hb5 hB4
  go_upto_region 15 with fail
  go_cut [16,17] (fun s16 s17 wx=>∃ (Bn:Nat) (kind:Int) (neg:Bool) (V bits:Nat) (text:ByteArray) (aL:Option Addr) (nL cL:Nat) (aK:Option Addr) (nK cK:Nat),s16=.pointer (some ⟨Bn,0,none⟩)∧s17=.bool true∧Hid (VBx wx Bn kind neg V bits text aL nL cL aK nK cK)∧Hid (out h=true→nK=0)∧Hid (out h=false→∀ wy:World,Below wx.heap.size wx wy→Calls Tryd.prog 11 #[.agg #[.int .i64 kind,.bool neg,.int .u64 (lm V 0:Nat),.int .u64 (lm V 1:Nat),.int .u64 (lm V 2:Nat),.int .u64 (lm V 3:Nat),.int .u64 (bits:Nat),.string text,.slice aL nL cL,.slice aK nK cK],.agg #[.int .i64 8,.bool false,.int .u64 0,.int .u64 0,.int .u64 0,.int .u64 0,.int .u64 0,.string ⟨#[]⟩,.slice (some ⟨g,0,none⟩) 1 1,.slice (some ⟨k,0,none⟩) 1 1]] wy fun e w2=>e=.returned (.bool true)∧Below wy.heap.size wy w2)∧Below w5.heap.size w5 wx)
  case first=>
    go_wp2_with (go_at_call 10;with_reducible refine (C.out.N h X _ _ _ _ _ HX.out hB5 HP5.out I5.out).mono ?_;rintro e w6 ⟨kind,neg,V,bits,text,aL,nL,cL,aK,nK,cK,rfl,hn,hs,hb6⟩)
    have A6:=vbx_new w6 35 kind neg V bits text aL nL cL aK nK cK
    go_meet
    exact ⟨_,kind,neg,V,bits,text,aL,nL,cL,aK,nK,cK,rfl,rfl,Lib.hid A6,Lib.hid hn,Lib.hid fun ho wy hy=>(hs ho).out wy (below_trans (below_alloc (Below.refl _ _) _) hy),below_alloc hb6 _⟩
  case rest=>
  obtain ⟨Bn,kind,neg,V,bits,text,aL,nL,cL,aK,nK,cK,rfl,rfl,A7,HN,HS,hb7⟩:=hcut
  generalize wc=w7 at *
  have R7:=Lib.hid (R5.out.below hb7)
  obtain ⟨_,_,_,_,_,_,_,_,_,_⟩:=R7.out.all
  obtain ⟨_,_,_,_,_,_,_,_,_,_⟩:=A7.out.all
  have hB7:=below_trans hB5 hb7
  clear R5 I5 HP5 hB5 hb7
  have HS':=HS.out HO.out
  repeat any_goals (first|(go_at_call 8;with_reducible refine (C.out.T _ hB7).mono ?_;rintro e w8 ⟨rfl,hb8⟩;have A8:=Lib.hid (A7.out.below hb8);obtain ⟨_,_,_,_,_,_,_,_,_,_⟩:=A8.out.all;have R8:=Lib.hid (R7.out.below hb8);obtain ⟨_,_,_,_,_,_,_,_,_,_⟩:=R8.out.all)|(go_at_call 11;with_reducible refine (HS' _ hb8).mono ?_;rintro e w9 ⟨rfl,hb9⟩)|go_skip|go_guarded|go_step|go_upon|(dsimp only []))
  all_goals exact bodyPost_ret (v:=.bool true) (by simp [results,Tryd.results4,go_sem]) rfl ⟨rfl,below_trans hB7 (below_trans hb8 hb9)⟩
set_option maxRecDepth 20000 in
set_option maxHeartbeats 4000000 in
theorem Zr_go01 (how wh:Int) (q1 q2 q3 p0 p1 p2 p3 r0 r1 r2 r3 S0 S1 S2 S3:ByteArray) (e0b:(⟨#[105,110,116,51,50]⟩:ByteArray) ++ ⟨#[32,120]⟩=p0) (e0c:(⟨#[115,121,110,116,97,120,32,61,32,34,112,114,111,116,111,51,34,59,32,109,101,115,115,97,103,101,32,77,32,123,32]⟩:ByteArray) ++ p0=r0) (e0d:r0 ++ (⟨#[32,61,32,49,59,32,125]⟩:ByteArray)=S0) (e1a:(⟨#[111,112,116,105,111,110,97,108,32]⟩:ByteArray) ++ ⟨#[105,110,116,51,50]⟩=q1) (e1b:q1 ++ (⟨#[32,120]⟩:ByteArray)=p1) (e1c:(⟨#[115,121,110,116,97,120,32,61,32,34,112,114,111,116,111,51,34,59,32,109,101,115,115,97,103,101,32,77,32,123,32]⟩:ByteArray) ++ p1=r1) (e1d:r1 ++ (⟨#[32,61,32,49,59,32,125]⟩:ByteArray)=S1) (e2a:(⟨#[114,101,112,101,97,116,101,100,32]⟩:ByteArray) ++ ⟨#[105,110,116,51,50]⟩=q2) (e2b:q2 ++ (⟨#[32,120]⟩:ByteArray)=p2) (e2c:(⟨#[115,121,110,116,97,120,32,61,32,34,112,114,111,116,111,51,34,59,32,109,101,115,115,97,103,101,32,77,32,123,32]⟩:ByteArray) ++ p2=r2) (e2d:r2 ++ (⟨#[32,61,32,49,59,32,125]⟩:ByteArray)=S2) (e3a:(⟨#[109,97,112,60,115,116,114,105,110,103,44,32]⟩:ByteArray) ++ ⟨#[105,110,116,51,50]⟩=q3) (e3b:q3 ++ (⟨#[62,32,120]⟩:ByteArray)=p3) (e3c:(⟨#[115,121,110,116,97,120,32,61,32,34,112,114,111,116,111,51,34,59,32,109,101,115,115,97,103,101,32,77,32,123,32]⟩:ByteArray) ++ p3=r3) (e3d:r3 ++ (⟨#[32,61,32,49,59,32,125]⟩:ByteArray)=S3)
    (hz:q1.size≤200∧q2.size≤200∧q3.size≤200∧p0.size≤200∧p1.size≤200∧p2.size≤200∧p3.size≤200∧r0.size≤200∧r1.size≤200∧r2.size≤200∧r3.size≤200) (h:Nat) (hl:h < 4) (hh:wrap64 ((IntKind.u64.wrap how).tmod 4)=(h:Int)) (hq:wrap64 ((IntKind.u64.wrap wh).tmod 6)=0) (PV:Nat→World→Option Addr→Nat→Prop) (out:Nat→Bool) (ho:out h=decide (h=0)) (w:World) (C:Hid (ZrC w (flatV 3 false 0 0 ⟨#[]⟩) S0 S1 S2 S3 PV out)) :
    Calls Tryd.prog 4 #[.int .i64 how,.int .i64 wh,.bool true] w fun e w'=>e=.returned (.bool true)∧Below w.heap.size w w':=by
  obtain ⟨zq1,zq2,zq3,zp0,zp1,zp2,zp3,zr0,zr1,zr2,zr3⟩:=hz
  obtain ⟨hi,ehi⟩:∃ hi:Int,(h:Int)=hi:=⟨_,rfl⟩
  rw [ehi] at hh
  have HO:=Lib.hid ho
  have HL:=Lib.hid hl
  have EH:=Lib.hid ehi
  clear ho hl ehi
  go_enter Tryd.func4,Tryd.ntmps4
  go_upto_region 2 with fail
  simp only [hh,hq]
  clear hh hq
  go_upto_region 3 with fail
  go_cut [10] (fun s10 wx=>∃ b:Nat,s10=.slice (some ⟨b,0,none⟩) 6 6∧Hid (TBx wx b 0 1 2 3 4 5 6 7 8 9 (.int .i64 3) (.bool false) (.int .u64 0) (.int .u64 0) (.int .u64 0) (.int .u64 0) (.int .u64 0) (.string ⟨#[]⟩) (.slice none 0 0) (.slice none 0 0))∧Below w.heap.size w wx)
  case first=>
    go_wp2_with fail
    go_meet
    exact ⟨_,rfl,Lib.hid ⟨by simp [go_sem]⟩,by (repeat first|with_reducible exact Below.refl _ _|with_reducible assumption|with_reducible refine Below.drew ?_|with_reducible refine below_alloc ?_ _|((with_reducible refine Below.setCell ?_ ?_ _);rotate_left;(focus (first|with_reducible exact Nat.le_refl _|(simp;done)|(simp;omega)|omega)))|(with_reducible refine below_trans ?_ (by assumption)))⟩
  case rest=>
  obtain ⟨b10,rfl,T10,hb1⟩:=hcut
  generalize wc=w1 at *
  go_upto_region 4 with fail
  go_cut [11] (fun s11 wx=>∃ b:Nat,s11=.slice (some ⟨b,0,none⟩) 6 6∧Hid (TBx wx b 0 1 2 3 4 5 6 7 8 9 (.int .i64 3) (.bool false) (.int .u64 5) (.int .u64 0) (.int .u64 0) (.int .u64 0) (.int .u64 0) (.string ⟨#[]⟩) (.slice none 0 0) (.slice none 0 0))∧Below w1.heap.size w1 wx)
  case first=>
    go_wp2_with fail
    go_meet
    exact ⟨_,rfl,Lib.hid ⟨by simp [go_sem]⟩,by (repeat first|with_reducible exact Below.refl _ _|with_reducible assumption|with_reducible refine Below.drew ?_|with_reducible refine below_alloc ?_ _|((with_reducible refine Below.setCell ?_ ?_ _);rotate_left;(focus (first|with_reducible exact Nat.le_refl _|(simp;done)|(simp;omega)|omega)))|(with_reducible refine below_trans ?_ (by assumption)))⟩
  case rest=>
  obtain ⟨b11,rfl,T11,hb2⟩:=hcut
  generalize wc=w2 at *
  have U10:=Lib.hid (T10.out.below hb2)
  have hB2:=below_trans hb1 hb2
  clear T10 hb1 hb2
  go_upto_region 5 with fail
  go_cut [12,13] (fun s12 s13 wx=>∃ (a:Option Addr) (c:Nat),s12=.slice a 1 c∧s13=.int .i64 0∧Hid (PV h wx a c)∧Below w2.heap.size w2 wx)
  case first=>
    have hl:=HL.out
    have ehi:=EH.out
    rcases (show h=0∨h=1∨h=2∨h=3 by omega) with rfl|rfl|rfl|rfl
    · obtain rfl:0=hi:=ehi
      go_wp2_with (go_at_call 5;with_reducible refine (C.out.L0 _).mono ?_;rintro e w5 ⟨a,c,rfl,hPV,hb5⟩)
      go_meet
      exact ⟨_,_,rfl,rfl,Lib.hid hPV,by (repeat first|with_reducible exact Below.refl _ _|with_reducible assumption|with_reducible refine Below.drew ?_|with_reducible refine below_alloc ?_ _|((with_reducible refine Below.setCell ?_ ?_ _);rotate_left;(focus (first|with_reducible exact Nat.le_refl _|(simp;done)|(simp;omega)|omega)))|(with_reducible refine below_trans ?_ (by assumption)))⟩
    · obtain rfl:1=hi:=ehi
      go_wp2_with (go_at_call 5;with_reducible refine (C.out.L1 _).mono ?_;rintro e w5 ⟨a,c,rfl,hPV,hb5⟩)
      go_meet
      exact ⟨_,_,rfl,rfl,Lib.hid hPV,by (repeat first|with_reducible exact Below.refl _ _|with_reducible assumption|with_reducible refine Below.drew ?_|with_reducible refine below_alloc ?_ _|((with_reducible refine Below.setCell ?_ ?_ _);rotate_left;(focus (first|with_reducible exact Nat.le_refl _|(simp;done)|(simp;omega)|omega)))|(with_reducible refine below_trans ?_ (by assumption)))⟩
    · obtain rfl:2=hi:=ehi
      go_wp2_with (go_at_call 5;with_reducible refine (C.out.L2 _).mono ?_;rintro e w5 ⟨a,c,rfl,hPV,hb5⟩)
      go_meet
      exact ⟨_,_,rfl,rfl,Lib.hid hPV,by (repeat first|with_reducible exact Below.refl _ _|with_reducible assumption|with_reducible refine Below.drew ?_|with_reducible refine below_alloc ?_ _|((with_reducible refine Below.setCell ?_ ?_ _);rotate_left;(focus (first|with_reducible exact Nat.le_refl _|(simp;done)|(simp;omega)|omega)))|(with_reducible refine below_trans ?_ (by assumption)))⟩
    · obtain rfl:3=hi:=ehi
      go_wp2_with (go_at_call 5;with_reducible refine (C.out.L3 _).mono ?_;rintro e w5 ⟨a,c,rfl,hPV,hb5⟩)
      go_meet
      exact ⟨_,_,rfl,rfl,Lib.hid hPV,by (repeat first|with_reducible exact Below.refl _ _|with_reducible assumption|with_reducible refine Below.drew ?_|with_reducible refine below_alloc ?_ _|((with_reducible refine Below.setCell ?_ ?_ _);rotate_left;(focus (first|with_reducible exact Nat.le_refl _|(simp;done)|(simp;omega)|omega)))|(with_reducible refine below_trans ?_ (by assumption)))⟩
  case rest=>
  obtain ⟨a,c,rfl,rfl,HPV,hb3⟩:=hcut
  generalize wc=w3 at *
  have V10:=Lib.hid (U10.out.below hb3)
  have V11:=Lib.hid (T11.out.below hb3)
  have hB3:=below_trans hB2 hb3
  obtain ⟨_,_,_,_,_,_,_,_,_,_⟩:=V11.out.all
  obtain ⟨k10,_,_,_,_,_,_,_,_,_⟩:=V10.out.all
  have l10:=World.block_lt_of_cell? w3 _ k10
  have l10:b10 < w3.heap.size:=l10
  clear T11 U10 hb3 hB2 V10 V11
  go_upto_block 0 with fail
  go_cut [] (fun wx=>∃ (X:VT) (v0 v1 v2 v3 v4 v5 v6 v7 v8 v9:Value),XF h (flatV 3 false 0 0 ⟨#[]⟩) X∧X.cells=[v0,v1,v2,v3,v4,v5,v6,v7,v8,v9]∧Hid (RBx wx w3.heap.size v0 v1 v2 v3 v4 v5 v6 v7 v8 v9)∧Hid (X.In wx)∧Below w3.heap.size w3 wx)
  case first=>
    have hl:=HL.out
    have ehi:=EH.out
    have HF:=fun wx=>flat_of wx 3 0 0 ⟨#[]⟩ (by decide) (by decide) (by decide) (by decide) (by decide)
    rcases (show h=0∨h=1∨h=2∨h=3 by omega) with rfl|rfl|rfl|rfl
    · obtain rfl:0=hi:=ehi
      go_wp2_with fail
      go_meet
      exact ⟨(flatV 3 false 0 0 ⟨#[]⟩),(.int .i64 3),(.bool false),(.int .u64 0),(.int .u64 0),(.int .u64 0),(.int .u64 0),(.int .u64 0),(.string ⟨#[]⟩),(.slice none 0 0),(.slice none 0 0),.inl ⟨.inl rfl,rfl⟩,by kernel_rfl,Lib.hid ⟨by simp [go_sem]⟩,Lib.hid (HF _),by (repeat first|with_reducible exact Below.refl _ _|with_reducible assumption|with_reducible refine Below.drew ?_|with_reducible refine below_alloc ?_ _|((with_reducible refine Below.setCell ?_ ?_ _);rotate_left;(focus (first|with_reducible exact Nat.le_refl _|(simp;done)|(simp;omega)|omega)))|(with_reducible refine below_trans ?_ (by assumption)))⟩
    · obtain rfl:1=hi:=ehi
      go_wp2_with fail
      go_meet
      exact ⟨(flatV 3 false 0 0 ⟨#[]⟩),(.int .i64 3),(.bool false),(.int .u64 0),(.int .u64 0),(.int .u64 0),(.int .u64 0),(.int .u64 0),(.string ⟨#[]⟩),(.slice none 0 0),(.slice none 0 0),.inl ⟨.inr rfl,rfl⟩,by kernel_rfl,Lib.hid ⟨by simp [go_sem]⟩,Lib.hid (HF _),by (repeat first|with_reducible exact Below.refl _ _|with_reducible assumption|with_reducible refine Below.drew ?_|with_reducible refine below_alloc ?_ _|((with_reducible refine Below.setCell ?_ ?_ _);rotate_left;(focus (first|with_reducible exact Nat.le_refl _|(simp;done)|(simp;omega)|omega)))|(with_reducible refine below_trans ?_ (by assumption)))⟩
    · obtain rfl:2=hi:=ehi
      go_wp2_with fail
      go_meet
      exact ⟨arrX (w3.heap.size+1) (flatV 3 false 0 0 ⟨#[]⟩),(.int .i64 7),(.bool false),(.int .u64 0),(.int .u64 0),(.int .u64 0),(.int .u64 0),(.int .u64 0),(.string ⟨#[]⟩),.slice (some ⟨w3.heap.size+1,0,none⟩) 1 1,.slice none 0 0,.inr (.inl ⟨rfl,_,rfl⟩),by kernel_rfl,Lib.hid ⟨by simp [go_sem]⟩,Lib.hid (arr_in (HF _) (by first|(simp;done)|(simp;omega)) (ten_of (v0:=(.int .i64 3)) (v1:=(.bool false)) (v2:=(.int .u64 0)) (v3:=(.int .u64 0)) (v4:=(.int .u64 0)) (v5:=(.int .u64 0)) (v6:=(.int .u64 0)) (v7:=(.string ⟨#[]⟩)) (v8:=(.slice none 0 0)) (v9:=(.slice none 0 0)) ⟨by simp [go_sem]⟩ (by kernel_rfl))),by (repeat first|with_reducible exact Below.refl _ _|with_reducible assumption|with_reducible refine Below.drew ?_|with_reducible refine below_alloc ?_ _|((with_reducible refine Below.setCell ?_ ?_ _);rotate_left;(focus (first|with_reducible exact Nat.le_refl _|(simp;done)|(simp;omega)|omega)))|(with_reducible refine below_trans ?_ (by assumption)))⟩
    · obtain rfl:3=hi:=ehi
      go_wp2_with fail
      go_meet
      exact ⟨mapX (w3.heap.size+2) (w3.heap.size+1) (flatV 3 false 0 0 ⟨#[]⟩),(.int .i64 8),(.bool false),(.int .u64 0),(.int .u64 0),(.int .u64 0),(.int .u64 0),(.int .u64 0),(.string ⟨#[]⟩),.slice (some ⟨w3.heap.size+2,0,none⟩) 1 1,.slice (some ⟨w3.heap.size+1,0,none⟩) 1 1,.inr (.inr ⟨rfl,_,_,rfl⟩),by kernel_rfl,Lib.hid ⟨by simp [go_sem]⟩,Lib.hid (map_in (HF _) (by first|(simp;done)|(simp;omega)) (by first|(simp;done)|(simp;omega)) (ten_of (v0:=(.int .i64 3)) (v1:=(.bool false)) (v2:=(.int .u64 0)) (v3:=(.int .u64 0)) (v4:=(.int .u64 0)) (v5:=(.int .u64 0)) (v6:=(.int .u64 0)) (v7:=(.string ⟨#[]⟩)) (v8:=(.slice none 0 0)) (v9:=(.slice none 0 0)) ⟨by simp [go_sem]⟩ (by kernel_rfl)) (by simp [go_sem])),by (repeat first|with_reducible exact Below.refl _ _|with_reducible assumption|with_reducible refine Below.drew ?_|with_reducible refine below_alloc ?_ _|((with_reducible refine Below.setCell ?_ ?_ _);rotate_left;(focus (first|with_reducible exact Nat.le_refl _|(simp;done)|(simp;omega)|omega)))|(with_reducible refine below_trans ?_ (by assumption)))⟩
  case rest=>
  obtain ⟨X,v0,v1,v2,v3,v4,v5,v6,v7,v8,v9,hX,hc,R4,I4,hb4⟩:=hcut
  generalize wc=w4 at *
  have HX:=Lib.hid hX
  have HC:=Lib.hid hc
  clear hX hc
  have HP4:=Lib.hid (C.out.pv _ _ _ _ _ HPV.out hb4)
  have hB4:=below_trans hB3 hb4
  obtain ⟨_,_,_,_,_,_,_,_,_,_⟩:=R4.out.all
  have l4:=World.block_lt_of_cell? w4 ⟨w3.heap.size,0,none⟩ R4.out.all.1
  have l4:w3.heap.size < w4.heap.size:=l4
  clear HPV hb4 hB3
  go_upto_region 14 with fail
  go_cut [15,88,90] (fun s15 sk sg wx=>∃ Bv g k:Nat,s15=.pointer (some ⟨Bv,0,none⟩)∧sk=.slice (some ⟨k,0,none⟩) 1 1∧sg=.slice (some ⟨g,0,none⟩) 1 1∧Hid (RBx wx Bv (.int .i64 8) (.bool false) (.int .u64 0) (.int .u64 0) (.int .u64 0) (.int .u64 0) (.int .u64 0) (.string ⟨#[]⟩) (.slice (some ⟨g,0,none⟩) 1 1) (.slice (some ⟨k,0,none⟩) 1 1))∧Hid ((recX g k X).In wx)∧Below w4.heap.size w4 wx)
  case first=>
    go_wp2_with fail
    go_meet
    exact ⟨_,_,_,rfl,rfl,rfl,Lib.hid ⟨by simp [go_sem]⟩,Lib.hid (rec_in (VT.In.below (by (repeat first|with_reducible exact Below.refl _ _|with_reducible assumption|with_reducible refine Below.drew ?_|with_reducible refine below_alloc ?_ _|((with_reducible refine Below.setCell ?_ ?_ _);rotate_left;(focus (first|with_reducible exact Nat.le_refl _|(simp;done)|(simp;omega)|omega)))|(with_reducible refine below_trans ?_ (by assumption)))) _ I4.out) (by first|(simp;done)|(simp;omega)) (by first|(simp;done)|(simp;omega)) (ten_of (v0:=v0) (v1:=v1) (v2:=v2) (v3:=v3) (v4:=v4) (v5:=v5) (v6:=v6) (v7:=v7) (v8:=v8) (v9:=v9) ⟨by simp [go_sem]⟩ HC.out) (by simp [go_sem])),by (repeat first|with_reducible exact Below.refl _ _|with_reducible assumption|with_reducible refine Below.drew ?_|with_reducible refine below_alloc ?_ _|((with_reducible refine Below.setCell ?_ ?_ _);rotate_left;(focus (first|with_reducible exact Nat.le_refl _|(simp;done)|(simp;omega)|omega)))|(with_reducible refine below_trans ?_ (by assumption)))⟩
  case rest=>
  obtain ⟨Bv,g,k,rfl,rfl,rfl,R5,I5,hb5⟩:=hcut
  generalize wc=w5 at *
  have HP5:=Lib.hid (C.out.pv _ _ _ _ _ HP4.out hb5)
  have hB5:=below_trans hB4 hb5
  obtain ⟨_,_,_,_,_,_,_,_,_,_⟩:=R5.out.all
  clear R4 I4 l4 HP4 hb5 hB4
  go_upto_region 15 with fail
  go_cut [16,17] (fun s16 s17 wx=>∃ (Bn:Nat) (kind:Int) (neg:Bool) (V bits:Nat) (text:ByteArray) (aL:Option Addr) (nL cL:Nat) (aK:Option Addr) (nK cK:Nat),s16=.pointer (some ⟨Bn,0,none⟩)∧s17=.bool true∧Hid (VBx wx Bn kind neg V bits text aL nL cL aK nK cK)∧Hid (out h=true→nK=0)∧Hid (out h=false→∀ wy:World,Below wx.heap.size wx wy→Calls Tryd.prog 11 #[.agg #[.int .i64 kind,.bool neg,.int .u64 (lm V 0:Nat),.int .u64 (lm V 1:Nat),.int .u64 (lm V 2:Nat),.int .u64 (lm V 3:Nat),.int .u64 (bits:Nat),.string text,.slice aL nL cL,.slice aK nK cK],.agg #[.int .i64 8,.bool false,.int .u64 0,.int .u64 0,.int .u64 0,.int .u64 0,.int .u64 0,.string ⟨#[]⟩,.slice (some ⟨g,0,none⟩) 1 1,.slice (some ⟨k,0,none⟩) 1 1]] wy fun e w2=>e=.returned (.bool true)∧Below wy.heap.size wy w2)∧Below w5.heap.size w5 wx)
  case first=>
    go_wp2_with (go_at_call 10;with_reducible refine (C.out.N h X _ _ _ _ _ HX.out hB5 HP5.out I5.out).mono ?_;rintro e w6 ⟨kind,neg,V,bits,text,aL,nL,cL,aK,nK,cK,rfl,hn,hs,hb6⟩)
    have A6:=vbx_new w6 35 kind neg V bits text aL nL cL aK nK cK
    go_meet
    exact ⟨_,kind,neg,V,bits,text,aL,nL,cL,aK,nK,cK,rfl,rfl,Lib.hid A6,Lib.hid hn,Lib.hid fun ho wy hy=>(hs ho).out wy (below_trans (below_alloc (Below.refl _ _) _) hy),below_alloc hb6 _⟩
  case rest=>
  obtain ⟨Bn,kind,neg,V,bits,text,aL,nL,cL,aK,nK,cK,rfl,rfl,A7,HN,HS,hb7⟩:=hcut
  generalize wc=w7 at *
  have R7:=Lib.hid (R5.out.below hb7)
  obtain ⟨_,_,_,_,_,_,_,_,_,_⟩:=R7.out.all
  obtain ⟨_,_,_,_,_,_,_,_,_,_⟩:=A7.out.all
  have hB7:=below_trans hB5 hb7
  clear R5 I5 HP5 hB5 hb7
  by_cases h0:h=0
  · subst h0
    obtain rfl:0=hi:=EH.out
    obtain rfl:=HN.out HO.out
    repeat any_goals (first|(go_at_call 8;with_reducible refine (C.out.T _ hB7).mono ?_;rintro e w8 ⟨rfl,hb8⟩;have A8:=Lib.hid (A7.out.below hb8);obtain ⟨_,_,_,_,_,_,_,_,_,_⟩:=A8.out.all;have R8:=Lib.hid (R7.out.below hb8);obtain ⟨_,_,_,_,_,_,_,_,_,_⟩:=R8.out.all)|go_skip|go_guarded|go_step|go_upon|(dsimp only []))
    exact bodyPost_ret (v:=.bool true) (by simp [results,Tryd.results4,go_sem]) rfl ⟨rfl,below_trans hB7 hb8⟩
  · have hi0:¬ hi=0:=by have:=EH.out;omega
    have hi1:(hi == 0)=false:=by simp [hi0]
    have HS':=HS.out (HO.out.trans (decide_eq_false h0))
    repeat any_goals (first|(go_at_call 8;with_reducible refine (C.out.T _ hB7).mono ?_;rintro e w8 ⟨rfl,hb8⟩;have A8:=Lib.hid (A7.out.below hb8);obtain ⟨_,_,_,_,_,_,_,_,_,_⟩:=A8.out.all;have R8:=Lib.hid (R7.out.below hb8);obtain ⟨_,_,_,_,_,_,_,_,_,_⟩:=R8.out.all)|(go_at_call 11;with_reducible refine (HS' _ hb8).mono ?_;rintro e w9 ⟨rfl,hb9⟩)|go_skip|go_guarded|go_step|go_upon|(dsimp only []))
    exact bodyPost_ret (v:=.bool true) (by simp [results,Tryd.results4,go_sem]) rfl ⟨rfl,below_trans hB7 (below_trans hb8 hb9)⟩
set_option maxRecDepth 20000 in
set_option maxHeartbeats 4000000 in
theorem Zr_go10 (how wh:Int) (q1 q2 q3 p0 p1 p2 p3 r0 r1 r2 r3 S0 S1 S2 S3:ByteArray) (e0b:(⟨#[98,111,111,108]⟩:ByteArray) ++ ⟨#[32,120]⟩=p0) (e0c:(⟨#[115,121,110,116,97,120,32,61,32,34,112,114,111,116,111,51,34,59,32,109,101,115,115,97,103,101,32,77,32,123,32]⟩:ByteArray) ++ p0=r0) (e0d:r0 ++ (⟨#[32,61,32,49,59,32,125]⟩:ByteArray)=S0) (e1a:(⟨#[111,112,116,105,111,110,97,108,32]⟩:ByteArray) ++ ⟨#[98,111,111,108]⟩=q1) (e1b:q1 ++ (⟨#[32,120]⟩:ByteArray)=p1) (e1c:(⟨#[115,121,110,116,97,120,32,61,32,34,112,114,111,116,111,51,34,59,32,109,101,115,115,97,103,101,32,77,32,123,32]⟩:ByteArray) ++ p1=r1) (e1d:r1 ++ (⟨#[32,61,32,49,59,32,125]⟩:ByteArray)=S1) (e2a:(⟨#[114,101,112,101,97,116,101,100,32]⟩:ByteArray) ++ ⟨#[98,111,111,108]⟩=q2) (e2b:q2 ++ (⟨#[32,120]⟩:ByteArray)=p2) (e2c:(⟨#[115,121,110,116,97,120,32,61,32,34,112,114,111,116,111,51,34,59,32,109,101,115,115,97,103,101,32,77,32,123,32]⟩:ByteArray) ++ p2=r2) (e2d:r2 ++ (⟨#[32,61,32,49,59,32,125]⟩:ByteArray)=S2) (e3a:(⟨#[109,97,112,60,115,116,114,105,110,103,44,32]⟩:ByteArray) ++ ⟨#[98,111,111,108]⟩=q3) (e3b:q3 ++ (⟨#[62,32,120]⟩:ByteArray)=p3) (e3c:(⟨#[115,121,110,116,97,120,32,61,32,34,112,114,111,116,111,51,34,59,32,109,101,115,115,97,103,101,32,77,32,123,32]⟩:ByteArray) ++ p3=r3) (e3d:r3 ++ (⟨#[32,61,32,49,59,32,125]⟩:ByteArray)=S3)
    (hz:q1.size≤200∧q2.size≤200∧q3.size≤200∧p0.size≤200∧p1.size≤200∧p2.size≤200∧p3.size≤200∧r0.size≤200∧r1.size≤200∧r2.size≤200∧r3.size≤200) (h:Nat) (hl:h < 4) (hh:wrap64 ((IntKind.u64.wrap how).tmod 4)=(h:Int)) (hq:wrap64 ((IntKind.u64.wrap wh).tmod 6)=1) (PV:Nat→World→Option Addr→Nat→Prop) (out:Nat→Bool) (ho:out h=false) (w:World) (C:Hid (ZrC w (flatV 2 false 0 1 ⟨#[]⟩) S0 S1 S2 S3 PV out)) :
    Calls Tryd.prog 4 #[.int .i64 how,.int .i64 wh,.bool false] w fun e w'=>e=.returned (.bool true)∧Below w.heap.size w w':=by
  obtain ⟨zq1,zq2,zq3,zp0,zp1,zp2,zp3,zr0,zr1,zr2,zr3⟩:=hz
  obtain ⟨hi,ehi⟩:∃ hi:Int,(h:Int)=hi:=⟨_,rfl⟩
  rw [ehi] at hh
  have HO:=Lib.hid ho
  have HL:=Lib.hid hl
  have EH:=Lib.hid ehi
  clear ho hl ehi
  go_enter Tryd.func4,Tryd.ntmps4
  go_upto_region 2 with fail
  simp only [hh,hq]
  clear hh hq
  go_upto_region 3 with fail
  go_cut [10] (fun s10 wx=>∃ b:Nat,s10=.slice (some ⟨b,0,none⟩) 6 6∧Hid (TBx wx b 10 11 12 13 14 15 16 17 18 19 (.int .i64 2) (.bool false) (.int .u64 0) (.int .u64 0) (.int .u64 0) (.int .u64 0) (.int .u64 0) (.string ⟨#[]⟩) (.slice none 0 0) (.slice none 0 0))∧Below w.heap.size w wx)
  case first=>
    go_wp2_with fail
    go_meet
    exact ⟨_,rfl,Lib.hid ⟨by simp [go_sem]⟩,by (repeat first|with_reducible exact Below.refl _ _|with_reducible assumption|with_reducible refine Below.drew ?_|with_reducible refine below_alloc ?_ _|((with_reducible refine Below.setCell ?_ ?_ _);rotate_left;(focus (first|with_reducible exact Nat.le_refl _|(simp;done)|(simp;omega)|omega)))|(with_reducible refine below_trans ?_ (by assumption)))⟩
  case rest=>
  obtain ⟨b10,rfl,T10,hb1⟩:=hcut
  generalize wc=w1 at *
  go_upto_region 4 with fail
  go_cut [11] (fun s11 wx=>∃ b:Nat,s11=.slice (some ⟨b,0,none⟩) 6 6∧Hid (TBx wx b 10 11 12 13 14 15 16 17 18 19 (.int .i64 2) (.bool false) (.int .u64 0) (.int .u64 0) (.int .u64 0) (.int .u64 0) (.int .u64 1) (.string ⟨#[]⟩) (.slice none 0 0) (.slice none 0 0))∧Below w1.heap.size w1 wx)
  case first=>
    go_wp2_with fail
    go_meet
    exact ⟨_,rfl,Lib.hid ⟨by simp [go_sem]⟩,by (repeat first|with_reducible exact Below.refl _ _|with_reducible assumption|with_reducible refine Below.drew ?_|with_reducible refine below_alloc ?_ _|((with_reducible refine Below.setCell ?_ ?_ _);rotate_left;(focus (first|with_reducible exact Nat.le_refl _|(simp;done)|(simp;omega)|omega)))|(with_reducible refine below_trans ?_ (by assumption)))⟩
  case rest=>
  obtain ⟨b11,rfl,T11,hb2⟩:=hcut
  generalize wc=w2 at *
  have U10:=Lib.hid (T10.out.below hb2)
  have hB2:=below_trans hb1 hb2
  clear T10 hb1 hb2
  go_upto_region 5 with fail
  go_cut [12,13] (fun s12 s13 wx=>∃ (a:Option Addr) (c:Nat),s12=.slice a 1 c∧s13=.int .i64 0∧Hid (PV h wx a c)∧Below w2.heap.size w2 wx)
  case first=>
    have hl:=HL.out
    have ehi:=EH.out
    rcases (show h=0∨h=1∨h=2∨h=3 by omega) with rfl|rfl|rfl|rfl
    · obtain rfl:0=hi:=ehi
      go_wp2_with (go_at_call 5;with_reducible refine (C.out.L0 _).mono ?_;rintro e w5 ⟨a,c,rfl,hPV,hb5⟩)
      go_meet
      exact ⟨_,_,rfl,rfl,Lib.hid hPV,by (repeat first|with_reducible exact Below.refl _ _|with_reducible assumption|with_reducible refine Below.drew ?_|with_reducible refine below_alloc ?_ _|((with_reducible refine Below.setCell ?_ ?_ _);rotate_left;(focus (first|with_reducible exact Nat.le_refl _|(simp;done)|(simp;omega)|omega)))|(with_reducible refine below_trans ?_ (by assumption)))⟩
    · obtain rfl:1=hi:=ehi
      go_wp2_with (go_at_call 5;with_reducible refine (C.out.L1 _).mono ?_;rintro e w5 ⟨a,c,rfl,hPV,hb5⟩)
      go_meet
      exact ⟨_,_,rfl,rfl,Lib.hid hPV,by (repeat first|with_reducible exact Below.refl _ _|with_reducible assumption|with_reducible refine Below.drew ?_|with_reducible refine below_alloc ?_ _|((with_reducible refine Below.setCell ?_ ?_ _);rotate_left;(focus (first|with_reducible exact Nat.le_refl _|(simp;done)|(simp;omega)|omega)))|(with_reducible refine below_trans ?_ (by assumption)))⟩
    · obtain rfl:2=hi:=ehi
      go_wp2_with (go_at_call 5;with_reducible refine (C.out.L2 _).mono ?_;rintro e w5 ⟨a,c,rfl,hPV,hb5⟩)
      go_meet
      exact ⟨_,_,rfl,rfl,Lib.hid hPV,by (repeat first|with_reducible exact Below.refl _ _|with_reducible assumption|with_reducible refine Below.drew ?_|with_reducible refine below_alloc ?_ _|((with_reducible refine Below.setCell ?_ ?_ _);rotate_left;(focus (first|with_reducible exact Nat.le_refl _|(simp;done)|(simp;omega)|omega)))|(with_reducible refine below_trans ?_ (by assumption)))⟩
    · obtain rfl:3=hi:=ehi
      go_wp2_with (go_at_call 5;with_reducible refine (C.out.L3 _).mono ?_;rintro e w5 ⟨a,c,rfl,hPV,hb5⟩)
      go_meet
      exact ⟨_,_,rfl,rfl,Lib.hid hPV,by (repeat first|with_reducible exact Below.refl _ _|with_reducible assumption|with_reducible refine Below.drew ?_|with_reducible refine below_alloc ?_ _|((with_reducible refine Below.setCell ?_ ?_ _);rotate_left;(focus (first|with_reducible exact Nat.le_refl _|(simp;done)|(simp;omega)|omega)))|(with_reducible refine below_trans ?_ (by assumption)))⟩
  case rest=>
  obtain ⟨a,c,rfl,rfl,HPV,hb3⟩:=hcut
  generalize wc=w3 at *
  have V10:=Lib.hid (U10.out.below hb3)
  have V11:=Lib.hid (T11.out.below hb3)
  have hB3:=below_trans hB2 hb3
  obtain ⟨_,_,_,_,_,_,_,_,_,_⟩:=V11.out.all
  clear T11 U10 hb3 hB2 V10 V11
  go_upto_block 0 with fail
  go_cut [] (fun wx=>∃ (X:VT) (v0 v1 v2 v3 v4 v5 v6 v7 v8 v9:Value),XF h (flatV 2 false 0 1 ⟨#[]⟩) X∧X.cells=[v0,v1,v2,v3,v4,v5,v6,v7,v8,v9]∧Hid (RBx wx w3.heap.size v0 v1 v2 v3 v4 v5 v6 v7 v8 v9)∧Hid (X.In wx)∧Below w3.heap.size w3 wx)
  case first=>
    have hl:=HL.out
    have ehi:=EH.out
    have HF:=fun wx=>flat_of wx 2 0 1 ⟨#[]⟩ (by decide) (by decide) (by decide) (by decide) (by decide)
    rcases (show h=0∨h=1∨h=2∨h=3 by omega) with rfl|rfl|rfl|rfl
    · obtain rfl:0=hi:=ehi
      go_wp2_with fail
      go_meet
      exact ⟨(flatV 2 false 0 1 ⟨#[]⟩),(.int .i64 2),(.bool false),(.int .u64 0),(.int .u64 0),(.int .u64 0),(.int .u64 0),(.int .u64 1),(.string ⟨#[]⟩),(.slice none 0 0),(.slice none 0 0),.inl ⟨.inl rfl,rfl⟩,by kernel_rfl,Lib.hid ⟨by simp [go_sem]⟩,Lib.hid (HF _),by (repeat first|with_reducible exact Below.refl _ _|with_reducible assumption|with_reducible refine Below.drew ?_|with_reducible refine below_alloc ?_ _|((with_reducible refine Below.setCell ?_ ?_ _);rotate_left;(focus (first|with_reducible exact Nat.le_refl _|(simp;done)|(simp;omega)|omega)))|(with_reducible refine below_trans ?_ (by assumption)))⟩
    · obtain rfl:1=hi:=ehi
      go_wp2_with fail
      go_meet
      exact ⟨(flatV 2 false 0 1 ⟨#[]⟩),(.int .i64 2),(.bool false),(.int .u64 0),(.int .u64 0),(.int .u64 0),(.int .u64 0),(.int .u64 1),(.string ⟨#[]⟩),(.slice none 0 0),(.slice none 0 0),.inl ⟨.inr rfl,rfl⟩,by kernel_rfl,Lib.hid ⟨by simp [go_sem]⟩,Lib.hid (HF _),by (repeat first|with_reducible exact Below.refl _ _|with_reducible assumption|with_reducible refine Below.drew ?_|with_reducible refine below_alloc ?_ _|((with_reducible refine Below.setCell ?_ ?_ _);rotate_left;(focus (first|with_reducible exact Nat.le_refl _|(simp;done)|(simp;omega)|omega)))|(with_reducible refine below_trans ?_ (by assumption)))⟩
    · obtain rfl:2=hi:=ehi
      go_wp2_with fail
      go_meet
      exact ⟨arrX (w3.heap.size+1) (flatV 2 false 0 1 ⟨#[]⟩),(.int .i64 7),(.bool false),(.int .u64 0),(.int .u64 0),(.int .u64 0),(.int .u64 0),(.int .u64 0),(.string ⟨#[]⟩),.slice (some ⟨w3.heap.size+1,0,none⟩) 1 1,.slice none 0 0,.inr (.inl ⟨rfl,_,rfl⟩),by kernel_rfl,Lib.hid ⟨by simp [go_sem]⟩,Lib.hid (arr_in (HF _) (by first|(simp;done)|(simp;omega)) (ten_of (v0:=(.int .i64 2)) (v1:=(.bool false)) (v2:=(.int .u64 0)) (v3:=(.int .u64 0)) (v4:=(.int .u64 0)) (v5:=(.int .u64 0)) (v6:=(.int .u64 1)) (v7:=(.string ⟨#[]⟩)) (v8:=(.slice none 0 0)) (v9:=(.slice none 0 0)) ⟨by simp [go_sem]⟩ (by kernel_rfl))),by (repeat first|with_reducible exact Below.refl _ _|with_reducible assumption|with_reducible refine Below.drew ?_|with_reducible refine below_alloc ?_ _|((with_reducible refine Below.setCell ?_ ?_ _);rotate_left;(focus (first|with_reducible exact Nat.le_refl _|(simp;done)|(simp;omega)|omega)))|(with_reducible refine below_trans ?_ (by assumption)))⟩
    · obtain rfl:3=hi:=ehi
      go_wp2_with fail
      go_meet
      exact ⟨mapX (w3.heap.size+2) (w3.heap.size+1) (flatV 2 false 0 1 ⟨#[]⟩),(.int .i64 8),(.bool false),(.int .u64 0),(.int .u64 0),(.int .u64 0),(.int .u64 0),(.int .u64 0),(.string ⟨#[]⟩),.slice (some ⟨w3.heap.size+2,0,none⟩) 1 1,.slice (some ⟨w3.heap.size+1,0,none⟩) 1 1,.inr (.inr ⟨rfl,_,_,rfl⟩),by kernel_rfl,Lib.hid ⟨by simp [go_sem]⟩,Lib.hid (map_in (HF _) (by first|(simp;done)|(simp;omega)) (by first|(simp;done)|(simp;omega)) (ten_of (v0:=(.int .i64 2)) (v1:=(.bool false)) (v2:=(.int .u64 0)) (v3:=(.int .u64 0)) (v4:=(.int .u64 0)) (v5:=(.int .u64 0)) (v6:=(.int .u64 1)) (v7:=(.string ⟨#[]⟩)) (v8:=(.slice none 0 0)) (v9:=(.slice none 0 0)) ⟨by simp [go_sem]⟩ (by kernel_rfl)) (by simp [go_sem])),by (repeat first|with_reducible exact Below.refl _ _|with_reducible assumption|with_reducible refine Below.drew ?_|with_reducible refine below_alloc ?_ _|((with_reducible refine Below.setCell ?_ ?_ _);rotate_left;(focus (first|with_reducible exact Nat.le_refl _|(simp;done)|(simp;omega)|omega)))|(with_reducible refine below_trans ?_ (by assumption)))⟩
  case rest=>
  obtain ⟨X,v0,v1,v2,v3,v4,v5,v6,v7,v8,v9,hX,hc,R4,I4,hb4⟩:=hcut
  generalize wc=w4 at *
  have HX:=Lib.hid hX
  have HC:=Lib.hid hc
  clear hX hc
  have HP4:=Lib.hid (C.out.pv _ _ _ _ _ HPV.out hb4)
  have hB4:=below_trans hB3 hb4
  obtain ⟨_,_,_,_,_,_,_,_,_,_⟩:=R4.out.all
  have l4:=World.block_lt_of_cell? w4 ⟨w3.heap.size,0,none⟩ R4.out.all.1
  have l4:w3.heap.size < w4.heap.size:=l4
  clear HPV hb4 hB3
  go_upto_region 14 with fail
  go_cut [15,88,90] (fun s15 sk sg wx=>∃ Bv g k:Nat,s15=.pointer (some ⟨Bv,0,none⟩)∧sk=.slice (some ⟨k,0,none⟩) 1 1∧sg=.slice (some ⟨g,0,none⟩) 1 1∧Hid (RBx wx Bv (.int .i64 8) (.bool false) (.int .u64 0) (.int .u64 0) (.int .u64 0) (.int .u64 0) (.int .u64 0) (.string ⟨#[]⟩) (.slice (some ⟨g,0,none⟩) 1 1) (.slice (some ⟨k,0,none⟩) 1 1))∧Hid ((recX g k X).In wx)∧Below w4.heap.size w4 wx)
  case first=>
    go_wp2_with fail
    go_meet
    exact ⟨_,_,_,rfl,rfl,rfl,Lib.hid ⟨by simp [go_sem]⟩,Lib.hid (rec_in (VT.In.below (by (repeat first|with_reducible exact Below.refl _ _|with_reducible assumption|with_reducible refine Below.drew ?_|with_reducible refine below_alloc ?_ _|((with_reducible refine Below.setCell ?_ ?_ _);rotate_left;(focus (first|with_reducible exact Nat.le_refl _|(simp;done)|(simp;omega)|omega)))|(with_reducible refine below_trans ?_ (by assumption)))) _ I4.out) (by first|(simp;done)|(simp;omega)) (by first|(simp;done)|(simp;omega)) (ten_of (v0:=v0) (v1:=v1) (v2:=v2) (v3:=v3) (v4:=v4) (v5:=v5) (v6:=v6) (v7:=v7) (v8:=v8) (v9:=v9) ⟨by simp [go_sem]⟩ HC.out) (by simp [go_sem])),by (repeat first|with_reducible exact Below.refl _ _|with_reducible assumption|with_reducible refine Below.drew ?_|with_reducible refine below_alloc ?_ _|((with_reducible refine Below.setCell ?_ ?_ _);rotate_left;(focus (first|with_reducible exact Nat.le_refl _|(simp;done)|(simp;omega)|omega)))|(with_reducible refine below_trans ?_ (by assumption)))⟩
  case rest=>
  obtain ⟨Bv,g,k,rfl,rfl,rfl,R5,I5,hb5⟩:=hcut
  generalize wc=w5 at *
  have HP5:=Lib.hid (C.out.pv _ _ _ _ _ HP4.out hb5)
  have hB5:=below_trans hB4 hb5
  obtain ⟨_,_,_,_,_,_,_,_,_,_⟩:=R5.out.all
  clear R4 I4 l4 HP4 hb5 hB4
  go_upto_region 15 with fail
  go_cut [16,17] (fun s16 s17 wx=>∃ (Bn:Nat) (kind:Int) (neg:Bool) (V bits:Nat) (text:ByteArray) (aL:Option Addr) (nL cL:Nat) (aK:Option Addr) (nK cK:Nat),s16=.pointer (some ⟨Bn,0,none⟩)∧s17=.bool true∧Hid (VBx wx Bn kind neg V bits text aL nL cL aK nK cK)∧Hid (out h=true→nK=0)∧Hid (out h=false→∀ wy:World,Below wx.heap.size wx wy→Calls Tryd.prog 11 #[.agg #[.int .i64 kind,.bool neg,.int .u64 (lm V 0:Nat),.int .u64 (lm V 1:Nat),.int .u64 (lm V 2:Nat),.int .u64 (lm V 3:Nat),.int .u64 (bits:Nat),.string text,.slice aL nL cL,.slice aK nK cK],.agg #[.int .i64 8,.bool false,.int .u64 0,.int .u64 0,.int .u64 0,.int .u64 0,.int .u64 0,.string ⟨#[]⟩,.slice (some ⟨g,0,none⟩) 1 1,.slice (some ⟨k,0,none⟩) 1 1]] wy fun e w2=>e=.returned (.bool true)∧Below wy.heap.size wy w2)∧Below w5.heap.size w5 wx)
  case first=>
    go_wp2_with (go_at_call 10;with_reducible refine (C.out.N h X _ _ _ _ _ HX.out hB5 HP5.out I5.out).mono ?_;rintro e w6 ⟨kind,neg,V,bits,text,aL,nL,cL,aK,nK,cK,rfl,hn,hs,hb6⟩)
    have A6:=vbx_new w6 35 kind neg V bits text aL nL cL aK nK cK
    go_meet
    exact ⟨_,kind,neg,V,bits,text,aL,nL,cL,aK,nK,cK,rfl,rfl,Lib.hid A6,Lib.hid hn,Lib.hid fun ho wy hy=>(hs ho).out wy (below_trans (below_alloc (Below.refl _ _) _) hy),below_alloc hb6 _⟩
  case rest=>
  obtain ⟨Bn,kind,neg,V,bits,text,aL,nL,cL,aK,nK,cK,rfl,rfl,A7,HN,HS,hb7⟩:=hcut
  generalize wc=w7 at *
  have R7:=Lib.hid (R5.out.below hb7)
  obtain ⟨_,_,_,_,_,_,_,_,_,_⟩:=R7.out.all
  obtain ⟨_,_,_,_,_,_,_,_,_,_⟩:=A7.out.all
  have hB7:=below_trans hB5 hb7
  clear R5 I5 HP5 hB5 hb7
  have HS':=HS.out HO.out
  repeat any_goals (first|(go_at_call 8;with_reducible refine (C.out.T _ hB7).mono ?_;rintro e w8 ⟨rfl,hb8⟩;have A8:=Lib.hid (A7.out.below hb8);obtain ⟨_,_,_,_,_,_,_,_,_,_⟩:=A8.out.all;have R8:=Lib.hid (R7.out.below hb8);obtain ⟨_,_,_,_,_,_,_,_,_,_⟩:=R8.out.all)|(go_at_call 11;with_reducible refine (HS' _ hb8).mono ?_;rintro e w9 ⟨rfl,hb9⟩)|go_skip|go_guarded|go_step|go_upon|(dsimp only []))
  all_goals exact bodyPost_ret (v:=.bool true) (by simp [results,Tryd.results4,go_sem]) rfl ⟨rfl,below_trans hB7 (below_trans hb8 hb9)⟩
set_option maxRecDepth 20000 in
set_option maxHeartbeats 4000000 in
theorem Zr_go11 (how wh:Int) (q1 q2 q3 p0 p1 p2 p3 r0 r1 r2 r3 S0 S1 S2 S3:ByteArray) (e0b:(⟨#[98,111,111,108]⟩:ByteArray) ++ ⟨#[32,120]⟩=p0) (e0c:(⟨#[115,121,110,116,97,120,32,61,32,34,112,114,111,116,111,51,34,59,32,109,101,115,115,97,103,101,32,77,32,123,32]⟩:ByteArray) ++ p0=r0) (e0d:r0 ++ (⟨#[32,61,32,49,59,32,125]⟩:ByteArray)=S0) (e1a:(⟨#[111,112,116,105,111,110,97,108,32]⟩:ByteArray) ++ ⟨#[98,111,111,108]⟩=q1) (e1b:q1 ++ (⟨#[32,120]⟩:ByteArray)=p1) (e1c:(⟨#[115,121,110,116,97,120,32,61,32,34,112,114,111,116,111,51,34,59,32,109,101,115,115,97,103,101,32,77,32,123,32]⟩:ByteArray) ++ p1=r1) (e1d:r1 ++ (⟨#[32,61,32,49,59,32,125]⟩:ByteArray)=S1) (e2a:(⟨#[114,101,112,101,97,116,101,100,32]⟩:ByteArray) ++ ⟨#[98,111,111,108]⟩=q2) (e2b:q2 ++ (⟨#[32,120]⟩:ByteArray)=p2) (e2c:(⟨#[115,121,110,116,97,120,32,61,32,34,112,114,111,116,111,51,34,59,32,109,101,115,115,97,103,101,32,77,32,123,32]⟩:ByteArray) ++ p2=r2) (e2d:r2 ++ (⟨#[32,61,32,49,59,32,125]⟩:ByteArray)=S2) (e3a:(⟨#[109,97,112,60,115,116,114,105,110,103,44,32]⟩:ByteArray) ++ ⟨#[98,111,111,108]⟩=q3) (e3b:q3 ++ (⟨#[62,32,120]⟩:ByteArray)=p3) (e3c:(⟨#[115,121,110,116,97,120,32,61,32,34,112,114,111,116,111,51,34,59,32,109,101,115,115,97,103,101,32,77,32,123,32]⟩:ByteArray) ++ p3=r3) (e3d:r3 ++ (⟨#[32,61,32,49,59,32,125]⟩:ByteArray)=S3)
    (hz:q1.size≤200∧q2.size≤200∧q3.size≤200∧p0.size≤200∧p1.size≤200∧p2.size≤200∧p3.size≤200∧r0.size≤200∧r1.size≤200∧r2.size≤200∧r3.size≤200) (h:Nat) (hl:h < 4) (hh:wrap64 ((IntKind.u64.wrap how).tmod 4)=(h:Int)) (hq:wrap64 ((IntKind.u64.wrap wh).tmod 6)=1) (PV:Nat→World→Option Addr→Nat→Prop) (out:Nat→Bool) (ho:out h=decide (h=0)) (w:World) (C:Hid (ZrC w (flatV 2 false 0 0 ⟨#[]⟩) S0 S1 S2 S3 PV out)) :
    Calls Tryd.prog 4 #[.int .i64 how,.int .i64 wh,.bool true] w fun e w'=>e=.returned (.bool true)∧Below w.heap.size w w':=by
  obtain ⟨zq1,zq2,zq3,zp0,zp1,zp2,zp3,zr0,zr1,zr2,zr3⟩:=hz
  obtain ⟨hi,ehi⟩:∃ hi:Int,(h:Int)=hi:=⟨_,rfl⟩
  rw [ehi] at hh
  have HO:=Lib.hid ho
  have HL:=Lib.hid hl
  have EH:=Lib.hid ehi
  clear ho hl ehi
  go_enter Tryd.func4,Tryd.ntmps4
  go_upto_region 2 with fail
  simp only [hh,hq]
  clear hh hq
  go_upto_region 3 with fail
  go_cut [10] (fun s10 wx=>∃ b:Nat,s10=.slice (some ⟨b,0,none⟩) 6 6∧Hid (TBx wx b 10 11 12 13 14 15 16 17 18 19 (.int .i64 2) (.bool false) (.int .u64 0) (.int .u64 0) (.int .u64 0) (.int .u64 0) (.int .u64 0) (.string ⟨#[]⟩) (.slice none 0 0) (.slice none 0 0))∧Below w.heap.size w wx)
  case first=>
    go_wp2_with fail
    go_meet
    exact ⟨_,rfl,Lib.hid ⟨by simp [go_sem]⟩,by (repeat first|with_reducible exact Below.refl _ _|with_reducible assumption|with_reducible refine Below.drew ?_|with_reducible refine below_alloc ?_ _|((with_reducible refine Below.setCell ?_ ?_ _);rotate_left;(focus (first|with_reducible exact Nat.le_refl _|(simp;done)|(simp;omega)|omega)))|(with_reducible refine below_trans ?_ (by assumption)))⟩
  case rest=>
  obtain ⟨b10,rfl,T10,hb1⟩:=hcut
  generalize wc=w1 at *
  go_upto_region 4 with fail
  go_cut [11] (fun s11 wx=>∃ b:Nat,s11=.slice (some ⟨b,0,none⟩) 6 6∧Hid (TBx wx b 10 11 12 13 14 15 16 17 18 19 (.int .i64 2) (.bool false) (.int .u64 0) (.int .u64 0) (.int .u64 0) (.int .u64 0) (.int .u64 1) (.string ⟨#[]⟩) (.slice none 0 0) (.slice none 0 0))∧Below w1.heap.size w1 wx)
  case first=>
    go_wp2_with fail
    go_meet
    exact ⟨_,rfl,Lib.hid ⟨by simp [go_sem]⟩,by (repeat first|with_reducible exact Below.refl _ _|with_reducible assumption|with_reducible refine Below.drew ?_|with_reducible refine below_alloc ?_ _|((with_reducible refine Below.setCell ?_ ?_ _);rotate_left;(focus (first|with_reducible exact Nat.le_refl _|(simp;done)|(simp;omega)|omega)))|(with_reducible refine below_trans ?_ (by assumption)))⟩
  case rest=>
  obtain ⟨b11,rfl,T11,hb2⟩:=hcut
  generalize wc=w2 at *
  have U10:=Lib.hid (T10.out.below hb2)
  have hB2:=below_trans hb1 hb2
  clear T10 hb1 hb2
  go_upto_region 5 with fail
  go_cut [12,13] (fun s12 s13 wx=>∃ (a:Option Addr) (c:Nat),s12=.slice a 1 c∧s13=.int .i64 0∧Hid (PV h wx a c)∧Below w2.heap.size w2 wx)
  case first=>
    have hl:=HL.out
    have ehi:=EH.out
    rcases (show h=0∨h=1∨h=2∨h=3 by omega) with rfl|rfl|rfl|rfl
    · obtain rfl:0=hi:=ehi
      go_wp2_with (go_at_call 5;with_reducible refine (C.out.L0 _).mono ?_;rintro e w5 ⟨a,c,rfl,hPV,hb5⟩)
      go_meet
      exact ⟨_,_,rfl,rfl,Lib.hid hPV,by (repeat first|with_reducible exact Below.refl _ _|with_reducible assumption|with_reducible refine Below.drew ?_|with_reducible refine below_alloc ?_ _|((with_reducible refine Below.setCell ?_ ?_ _);rotate_left;(focus (first|with_reducible exact Nat.le_refl _|(simp;done)|(simp;omega)|omega)))|(with_reducible refine below_trans ?_ (by assumption)))⟩
    · obtain rfl:1=hi:=ehi
      go_wp2_with (go_at_call 5;with_reducible refine (C.out.L1 _).mono ?_;rintro e w5 ⟨a,c,rfl,hPV,hb5⟩)
      go_meet
      exact ⟨_,_,rfl,rfl,Lib.hid hPV,by (repeat first|with_reducible exact Below.refl _ _|with_reducible assumption|with_reducible refine Below.drew ?_|with_reducible refine below_alloc ?_ _|((with_reducible refine Below.setCell ?_ ?_ _);rotate_left;(focus (first|with_reducible exact Nat.le_refl _|(simp;done)|(simp;omega)|omega)))|(with_reducible refine below_trans ?_ (by assumption)))⟩
    · obtain rfl:2=hi:=ehi
      go_wp2_with (go_at_call 5;with_reducible refine (C.out.L2 _).mono ?_;rintro e w5 ⟨a,c,rfl,hPV,hb5⟩)
      go_meet
      exact ⟨_,_,rfl,rfl,Lib.hid hPV,by (repeat first|with_reducible exact Below.refl _ _|with_reducible assumption|with_reducible refine Below.drew ?_|with_reducible refine below_alloc ?_ _|((with_reducible refine Below.setCell ?_ ?_ _);rotate_left;(focus (first|with_reducible exact Nat.le_refl _|(simp;done)|(simp;omega)|omega)))|(with_reducible refine below_trans ?_ (by assumption)))⟩
    · obtain rfl:3=hi:=ehi
      go_wp2_with (go_at_call 5;with_reducible refine (C.out.L3 _).mono ?_;rintro e w5 ⟨a,c,rfl,hPV,hb5⟩)
      go_meet
      exact ⟨_,_,rfl,rfl,Lib.hid hPV,by (repeat first|with_reducible exact Below.refl _ _|with_reducible assumption|with_reducible refine Below.drew ?_|with_reducible refine below_alloc ?_ _|((with_reducible refine Below.setCell ?_ ?_ _);rotate_left;(focus (first|with_reducible exact Nat.le_refl _|(simp;done)|(simp;omega)|omega)))|(with_reducible refine below_trans ?_ (by assumption)))⟩
  case rest=>
  obtain ⟨a,c,rfl,rfl,HPV,hb3⟩:=hcut
  generalize wc=w3 at *
  have V10:=Lib.hid (U10.out.below hb3)
  have V11:=Lib.hid (T11.out.below hb3)
  have hB3:=below_trans hB2 hb3
  obtain ⟨_,_,_,_,_,_,_,_,_,_⟩:=V11.out.all
  obtain ⟨k10,_,_,_,_,_,_,_,_,_⟩:=V10.out.all
  have l10:=World.block_lt_of_cell? w3 _ k10
  have l10:b10 < w3.heap.size:=l10
  clear T11 U10 hb3 hB2 V10 V11
  go_upto_block 0 with fail
  go_cut [] (fun wx=>∃ (X:VT) (v0 v1 v2 v3 v4 v5 v6 v7 v8 v9:Value),XF h (flatV 2 false 0 0 ⟨#[]⟩) X∧X.cells=[v0,v1,v2,v3,v4,v5,v6,v7,v8,v9]∧Hid (RBx wx w3.heap.size v0 v1 v2 v3 v4 v5 v6 v7 v8 v9)∧Hid (X.In wx)∧Below w3.heap.size w3 wx)
  case first=>
    have hl:=HL.out
    have ehi:=EH.out
    have HF:=fun wx=>flat_of wx 2 0 0 ⟨#[]⟩ (by decide) (by decide) (by decide) (by decide) (by decide)
    rcases (show h=0∨h=1∨h=2∨h=3 by omega) with rfl|rfl|rfl|rfl
    · obtain rfl:0=hi:=ehi
      go_wp2_with fail
      go_meet
      exact ⟨(flatV 2 false 0 0 ⟨#[]⟩),(.int .i64 2),(.bool false),(.int .u64 0),(.int .u64 0),(.int .u64 0),(.int .u64 0),(.int .u64 0),(.string ⟨#[]⟩),(.slice none 0 0),(.slice none 0 0),.inl ⟨.inl rfl,rfl⟩,by kernel_rfl,Lib.hid ⟨by simp [go_sem]⟩,Lib.hid (HF _),by (repeat first|with_reducible exact Below.refl _ _|with_reducible assumption|with_reducible refine Below.drew ?_|with_reducible refine below_alloc ?_ _|((with_reducible refine Below.setCell ?_ ?_ _);rotate_left;(focus (first|with_reducible exact Nat.le_refl _|(simp;done)|(simp;omega)|omega)))|(with_reducible refine below_trans ?_ (by assumption)))⟩
    · obtain rfl:1=hi:=ehi
      go_wp2_with fail
      go_meet
      exact ⟨(flatV 2 false 0 0 ⟨#[]⟩),(.int .i64 2),(.bool false),(.int .u64 0),(.int .u64 0),(.int .u64 0),(.int .u64 0),(.int .u64 0),(.string ⟨#[]⟩),(.slice none 0 0),(.slice none 0 0),.inl ⟨.inr rfl,rfl⟩,by kernel_rfl,Lib.hid ⟨by simp [go_sem]⟩,Lib.hid (HF _),by (repeat first|with_reducible exact Below.refl _ _|with_reducible assumption|with_reducible refine Below.drew ?_|with_reducible refine below_alloc ?_ _|((with_reducible refine Below.setCell ?_ ?_ _);rotate_left;(focus (first|with_reducible exact Nat.le_refl _|(simp;done)|(simp;omega)|omega)))|(with_reducible refine below_trans ?_ (by assumption)))⟩
    · obtain rfl:2=hi:=ehi
      go_wp2_with fail
      go_meet
      exact ⟨arrX (w3.heap.size+1) (flatV 2 false 0 0 ⟨#[]⟩),(.int .i64 7),(.bool false),(.int .u64 0),(.int .u64 0),(.int .u64 0),(.int .u64 0),(.int .u64 0),(.string ⟨#[]⟩),.slice (some ⟨w3.heap.size+1,0,none⟩) 1 1,.slice none 0 0,.inr (.inl ⟨rfl,_,rfl⟩),by kernel_rfl,Lib.hid ⟨by simp [go_sem]⟩,Lib.hid (arr_in (HF _) (by first|(simp;done)|(simp;omega)) (ten_of (v0:=(.int .i64 2)) (v1:=(.bool false)) (v2:=(.int .u64 0)) (v3:=(.int .u64 0)) (v4:=(.int .u64 0)) (v5:=(.int .u64 0)) (v6:=(.int .u64 0)) (v7:=(.string ⟨#[]⟩)) (v8:=(.slice none 0 0)) (v9:=(.slice none 0 0)) ⟨by simp [go_sem]⟩ (by kernel_rfl))),by (repeat first|with_reducible exact Below.refl _ _|with_reducible assumption|with_reducible refine Below.drew ?_|with_reducible refine below_alloc ?_ _|((with_reducible refine Below.setCell ?_ ?_ _);rotate_left;(focus (first|with_reducible exact Nat.le_refl _|(simp;done)|(simp;omega)|omega)))|(with_reducible refine below_trans ?_ (by assumption)))⟩
    · obtain rfl:3=hi:=ehi
      go_wp2_with fail
      go_meet
      exact ⟨mapX (w3.heap.size+2) (w3.heap.size+1) (flatV 2 false 0 0 ⟨#[]⟩),(.int .i64 8),(.bool false),(.int .u64 0),(.int .u64 0),(.int .u64 0),(.int .u64 0),(.int .u64 0),(.string ⟨#[]⟩),.slice (some ⟨w3.heap.size+2,0,none⟩) 1 1,.slice (some ⟨w3.heap.size+1,0,none⟩) 1 1,.inr (.inr ⟨rfl,_,_,rfl⟩),by kernel_rfl,Lib.hid ⟨by simp [go_sem]⟩,Lib.hid (map_in (HF _) (by first|(simp;done)|(simp;omega)) (by first|(simp;done)|(simp;omega)) (ten_of (v0:=(.int .i64 2)) (v1:=(.bool false)) (v2:=(.int .u64 0)) (v3:=(.int .u64 0)) (v4:=(.int .u64 0)) (v5:=(.int .u64 0)) (v6:=(.int .u64 0)) (v7:=(.string ⟨#[]⟩)) (v8:=(.slice none 0 0)) (v9:=(.slice none 0 0)) ⟨by simp [go_sem]⟩ (by kernel_rfl)) (by simp [go_sem])),by (repeat first|with_reducible exact Below.refl _ _|with_reducible assumption|with_reducible refine Below.drew ?_|with_reducible refine below_alloc ?_ _|((with_reducible refine Below.setCell ?_ ?_ _);rotate_left;(focus (first|with_reducible exact Nat.le_refl _|(simp;done)|(simp;omega)|omega)))|(with_reducible refine below_trans ?_ (by assumption)))⟩
  case rest=>
  obtain ⟨X,v0,v1,v2,v3,v4,v5,v6,v7,v8,v9,hX,hc,R4,I4,hb4⟩:=hcut
  generalize wc=w4 at *
  have HX:=Lib.hid hX
  have HC:=Lib.hid hc
  clear hX hc
  have HP4:=Lib.hid (C.out.pv _ _ _ _ _ HPV.out hb4)
  have hB4:=below_trans hB3 hb4
  obtain ⟨_,_,_,_,_,_,_,_,_,_⟩:=R4.out.all
  have l4:=World.block_lt_of_cell? w4 ⟨w3.heap.size,0,none⟩ R4.out.all.1
  have l4:w3.heap.size < w4.heap.size:=l4
  clear HPV hb4 hB3
  go_upto_region 14 with fail
  go_cut [15,88,90] (fun s15 sk sg wx=>∃ Bv g k:Nat,s15=.pointer (some ⟨Bv,0,none⟩)∧sk=.slice (some ⟨k,0,none⟩) 1 1∧sg=.slice (some ⟨g,0,none⟩) 1 1∧Hid (RBx wx Bv (.int .i64 8) (.bool false) (.int .u64 0) (.int .u64 0) (.int .u64 0) (.int .u64 0) (.int .u64 0) (.string ⟨#[]⟩) (.slice (some ⟨g,0,none⟩) 1 1) (.slice (some ⟨k,0,none⟩) 1 1))∧Hid ((recX g k X).In wx)∧Below w4.heap.size w4 wx)
  case first=>
    go_wp2_with fail
    go_meet
    exact ⟨_,_,_,rfl,rfl,rfl,Lib.hid ⟨by simp [go_sem]⟩,Lib.hid (rec_in (VT.In.below (by (repeat first|with_reducible exact Below.refl _ _|with_reducible assumption|with_reducible refine Below.drew ?_|with_reducible refine below_alloc ?_ _|((with_reducible refine Below.setCell ?_ ?_ _);rotate_left;(focus (first|with_reducible exact Nat.le_refl _|(simp;done)|(simp;omega)|omega)))|(with_reducible refine below_trans ?_ (by assumption)))) _ I4.out) (by first|(simp;done)|(simp;omega)) (by first|(simp;done)|(simp;omega)) (ten_of (v0:=v0) (v1:=v1) (v2:=v2) (v3:=v3) (v4:=v4) (v5:=v5) (v6:=v6) (v7:=v7) (v8:=v8) (v9:=v9) ⟨by simp [go_sem]⟩ HC.out) (by simp [go_sem])),by (repeat first|with_reducible exact Below.refl _ _|with_reducible assumption|with_reducible refine Below.drew ?_|with_reducible refine below_alloc ?_ _|((with_reducible refine Below.setCell ?_ ?_ _);rotate_left;(focus (first|with_reducible exact Nat.le_refl _|(simp;done)|(simp;omega)|omega)))|(with_reducible refine below_trans ?_ (by assumption)))⟩
  case rest=>
  obtain ⟨Bv,g,k,rfl,rfl,rfl,R5,I5,hb5⟩:=hcut
  generalize wc=w5 at *
  have HP5:=Lib.hid (C.out.pv _ _ _ _ _ HP4.out hb5)
  have hB5:=below_trans hB4 hb5
  obtain ⟨_,_,_,_,_,_,_,_,_,_⟩:=R5.out.all
  clear R4 I4 l4 HP4 hb5 hB4
  go_upto_region 15 with fail
  go_cut [16,17] (fun s16 s17 wx=>∃ (Bn:Nat) (kind:Int) (neg:Bool) (V bits:Nat) (text:ByteArray) (aL:Option Addr) (nL cL:Nat) (aK:Option Addr) (nK cK:Nat),s16=.pointer (some ⟨Bn,0,none⟩)∧s17=.bool true∧Hid (VBx wx Bn kind neg V bits text aL nL cL aK nK cK)∧Hid (out h=true→nK=0)∧Hid (out h=false→∀ wy:World,Below wx.heap.size wx wy→Calls Tryd.prog 11 #[.agg #[.int .i64 kind,.bool neg,.int .u64 (lm V 0:Nat),.int .u64 (lm V 1:Nat),.int .u64 (lm V 2:Nat),.int .u64 (lm V 3:Nat),.int .u64 (bits:Nat),.string text,.slice aL nL cL,.slice aK nK cK],.agg #[.int .i64 8,.bool false,.int .u64 0,.int .u64 0,.int .u64 0,.int .u64 0,.int .u64 0,.string ⟨#[]⟩,.slice (some ⟨g,0,none⟩) 1 1,.slice (some ⟨k,0,none⟩) 1 1]] wy fun e w2=>e=.returned (.bool true)∧Below wy.heap.size wy w2)∧Below w5.heap.size w5 wx)
  case first=>
    go_wp2_with (go_at_call 10;with_reducible refine (C.out.N h X _ _ _ _ _ HX.out hB5 HP5.out I5.out).mono ?_;rintro e w6 ⟨kind,neg,V,bits,text,aL,nL,cL,aK,nK,cK,rfl,hn,hs,hb6⟩)
    have A6:=vbx_new w6 35 kind neg V bits text aL nL cL aK nK cK
    go_meet
    exact ⟨_,kind,neg,V,bits,text,aL,nL,cL,aK,nK,cK,rfl,rfl,Lib.hid A6,Lib.hid hn,Lib.hid fun ho wy hy=>(hs ho).out wy (below_trans (below_alloc (Below.refl _ _) _) hy),below_alloc hb6 _⟩
  case rest=>
  obtain ⟨Bn,kind,neg,V,bits,text,aL,nL,cL,aK,nK,cK,rfl,rfl,A7,HN,HS,hb7⟩:=hcut
  generalize wc=w7 at *
  have R7:=Lib.hid (R5.out.below hb7)
  obtain ⟨_,_,_,_,_,_,_,_,_,_⟩:=R7.out.all
  obtain ⟨_,_,_,_,_,_,_,_,_,_⟩:=A7.out.all
  have hB7:=below_trans hB5 hb7
  clear R5 I5 HP5 hB5 hb7
  by_cases h0:h=0
  · subst h0
    obtain rfl:0=hi:=EH.out
    obtain rfl:=HN.out HO.out
    repeat any_goals (first|(go_at_call 8;with_reducible refine (C.out.T _ hB7).mono ?_;rintro e w8 ⟨rfl,hb8⟩;have A8:=Lib.hid (A7.out.below hb8);obtain ⟨_,_,_,_,_,_,_,_,_,_⟩:=A8.out.all;have R8:=Lib.hid (R7.out.below hb8);obtain ⟨_,_,_,_,_,_,_,_,_,_⟩:=R8.out.all)|go_skip|go_guarded|go_step|go_upon|(dsimp only []))
    exact bodyPost_ret (v:=.bool true) (by simp [results,Tryd.results4,go_sem]) rfl ⟨rfl,below_trans hB7 hb8⟩
  · have hi0:¬ hi=0:=by have:=EH.out;omega
    have hi1:(hi == 0)=false:=by simp [hi0]
    have HS':=HS.out (HO.out.trans (decide_eq_false h0))
    repeat any_goals (first|(go_at_call 8;with_reducible refine (C.out.T _ hB7).mono ?_;rintro e w8 ⟨rfl,hb8⟩;have A8:=Lib.hid (A7.out.below hb8);obtain ⟨_,_,_,_,_,_,_,_,_,_⟩:=A8.out.all;have R8:=Lib.hid (R7.out.below hb8);obtain ⟨_,_,_,_,_,_,_,_,_,_⟩:=R8.out.all)|(go_at_call 11;with_reducible refine (HS' _ hb8).mono ?_;rintro e w9 ⟨rfl,hb9⟩)|go_skip|go_guarded|go_step|go_upon|(dsimp only []))
    exact bodyPost_ret (v:=.bool true) (by simp [results,Tryd.results4,go_sem]) rfl ⟨rfl,below_trans hB7 (below_trans hb8 hb9)⟩
end Go.Proofs.YtfondldmmcmloaaDoor
