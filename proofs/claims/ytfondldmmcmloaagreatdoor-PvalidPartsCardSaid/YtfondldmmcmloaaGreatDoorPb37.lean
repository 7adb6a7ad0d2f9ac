/- Ld7, To23, MOpen. -/
import Derived.Test.YtfondldmmcmloaaGreatDoorPb36
set_option maxRecDepth 1000000
set_option maxHeartbeats 8000000
namespace Go.Proofs.YtfondldmmcmloaaGreatDoor
open Go Go.RowKit
theorem z37zk1 {p:Prop} (h:p:=by
 have h1:=HLen.out;have h2:=hgo.ge;have h3:=hgo.up;simp only [Bool.false_eq_true,if_false] at h1;rw [List.length_append,List.length_singleton];split
 ·show l.length+1≤_+1;have h2:i1≤_:=h2;omega
 ·next hq=>have h4:=(h3 (by rw [Bool.not_eq_true] at hq;exact hq)).2;show l.length+1≤_+0;have h4:i1+1≤_:=h4;omega):p:=h
end Go.Proofs.YtfondldmmcmloaaGreatDoor
namespace Go.Proofs.YtfondldmmcmloaaGreatDoor
open Go Go.RowKit
theorem infoPM:(Tryz.prog.info? 45).map (fun i=>(i.zero,i.size,i.bytes))=some (some (.agg #[.string ⟨#[]⟩,.slice none 0 0,.slice none 0 0,.slice none 0 0]),4,88):=by kernel_rfl
def LoadQ (s:ByteArray) (w:World) (e:Ending) (w':World):Prop:=
 Below w.heap.size w w'∧((loadR s=none∧e=.returned (.tuple #[.slice none 0 0,.int .i64 3])) ∨
  ∃ (l:List MB) (a:Option Addr) (c:Nat) (A:Nat→Ad6),loadR s=some l∧PL w' a l.length c (pmsOf l A) ∧
   ((checkI (pmsOf l A) l.length=0∧e=.returned (.tuple #[.slice a l.length c,.int .i64 0]))∨(checkI (pmsOf l A) l.length≠0∧e=.returned (.tuple #[.slice none 0 0,.int .i64 (checkI (pmsOf l A) l.length)]))))
/-- **Load** of the document -/
theorem RLoad_any (s:ByteArray) (hs:s.size≤8192) (w:World):Calls Tryz.prog 17 #[.string s] w fun e w'=>LoadQ s w e w':=by
 have CS:=Lib.hid (split_of hs w)
 go_enter Tryz.func17,Tryz.ntmps17
 go_upto_region 4 with (go_at_call 28;with_reducible refine CS.out.mono ?_;rintro e w1 ⟨a,n,c,K,S,ok,rfl,hsp⟩;have SP:=Lib.hid hsp;clear hsp)
 obtain ⟨bad0,hbad0⟩:∃ x,(!ok)=x:=⟨_,rfl⟩
 have P0:=Lib.hid (pbx_new w1 a n c bad0 61)
 have hR:=SP.out.r
 rw [hbad0] at hR
 have HR:=Lib.hid hR
 have hW1:Below w1.heap.size w1 (w1.alloc (.cells #[.slice a n c,.int .i64 0,.bool bad0] 61)):=below_alloc (Below.refl _ _) _
 have hT1:=SP.out.t.below hW1
 have hBW:w1.heap.size < (w1.alloc (.cells #[.slice a n c,.int .i64 0,.bool bad0] 61)).heap.size:=P0.out.lt
 have hA:=SP.out.hA
 have hn:=SP.out.hn
 have hD:=SP.out.d
 have hS:=SP.out.hS
 have HB:=Lib.hid (below_trans SP.out.b hW1)
 clear hR CS
 go_upto_region 5 with fail
 generalize w1.alloc (.cells #[.slice a n c,.int .i64 0,.bool bad0] 61)=W1 at *
 have hBw:w.heap.size≤w1.heap.size:=SP.out.b.size
 generalize w1.heap.size=B at *
 have T:Hid (∀ wx,But B B W1 wx→TIn wx a n c K S):=Lib.hid fun wx hx=>hT1.but hx fun ad e=>⟨by have:=(hA ad e).2;omega,by have:=(hA ad e).2;omega⟩
 have CI:Hid (∀ (k:Int) (s:ByteArray) (hk:k≠0) (r:Rd) (wx:World),RdI W1 B a n c wx r→Calls Tryz.prog 31 #[.pointer (some ⟨B,0,none⟩),.agg #[.int .i64 k,.string s]] wx fun e w'=>e=.returned (.bool (r.is K S n k s))∧RdI W1 B a n c w' (r.pass K S n k s)∧But B B wx w'):=Lib.hid fun k s hk r wx h=>(Is_any B a n c r.i r.bad K S k s wx h.p (T.out wx h.b) (by have:=h.i;omega)).mono fun e w' hx=>⟨hx.1,h.step hx.2.1 hx.2.2 (rd_take_le hk h.i),hx.2.2⟩
 have CT:Hid (∀ (k:Int) (s:ByteArray) (hk:k≠0) (r:Rd) (wx:World),RdI W1 B a n c wx r→Calls Tryz.prog 29 #[.pointer (some ⟨B,0,none⟩),.int .i64 k,.string s] wx fun e w'=>e=.returned (.tuple #[])∧RdI W1 B a n c w' (r.take K S n k s)∧But B B wx w'):=Lib.hid fun k s hk r wx h=>(Take_any B a n c r.i r.bad K S k s wx h.p (T.out wx h.b) (by have:=h.i;omega)).mono fun e w' hx=>⟨hx.1,h.step hx.2.1 hx.2.2 (rd_take_le hk h.i),hx.2.2⟩
 have CW:Hid (∀ (k:Int) (hk:k≠0) (r:Rd) (wx:World),RdI W1 B a n c wx r→Calls Tryz.prog 30 #[.pointer (some ⟨B,0,none⟩),.int .i64 k] wx fun e w'=>e=.returned (.string (r.text K S n k))∧RdI W1 B a n c w' (r.word K n k)∧But B B wx w'):=Lib.hid fun k hk r wx h=>(Word_any B a n c r.i r.bad K S k wx h.p (T.out wx h.b) (by have:=h.i;omega)).mono fun e w' hx=>⟨hx.1,h.step hx.2.1 hx.2.2 (rd_word_le hk h.i),hx.2.2⟩
 have CR:Hid (∀ (r:Rd) (m:MB) (w0 wx:World) (vF vN vS:Value),But B B W1 w0→RdI W1 B a n c wx r→MsI w0 B wx m vF vN vS→r.bad=false→LenI n r m→Calls Tryz.prog 32 #[.pointer (some ⟨B,0,none⟩),.pointer (some ⟨w0.heap.size,0,none⟩)] wx fun e w'=>e=.returned (.tuple #[])∧∃ vN' vS':Value,MsI w0 B w' (resT K S n r m).2 vF vN' vS'∧RdI W1 B a n c w' (resT K S n r m).1∧LenI n (resT K S n r m).1 (resT K S n r m).2):=Lib.hid fun r m w0 wx vF vN vS h0 h hM hb hl=>(Res_any B a n c r m K S w0 wx vF vN vS hM h.p (T.out w0 h0) (fun ad e=>by have:=(hA ad e).2;have:=h0.size;exact ⟨by omega,by omega⟩) hD hn hb hl).mono fun e w' ⟨h1,vN',vS',h2,h3,h4⟩=>⟨h1,vN',vS',h2,⟨h0.trans2 h2.b,h3,(resT_go m h.i).le⟩,h4⟩
 have CF:Hid (∀ (r:Rd) (m:MB) (w0 wx:World) (vF vN vS:Value),But B B W1 w0→RdI W1 B a n c wx r→MsI w0 B wx m vF vN vS→r.bad=false→LenI n r m→Calls Tryz.prog 33 #[.pointer (some ⟨B,0,none⟩),.pointer (some ⟨w0.heap.size,0,none⟩)] wx fun e w'=>e=.returned (.tuple #[])∧∃ vF':Value,MsI w0 B w' (fieldT K S n r m).2 vF' vN vS∧RdI W1 B a n c w' (fieldT K S n r m).1∧LenI n (fieldT K S n r m).1 (fieldT K S n r m).2):=Lib.hid fun r m w0 wx vF vN vS h0 h hM hb hl=>(Fld_any B a n c r m K S w0 wx vF vN vS hM h.p (T.out w0 h0) (fun ad e=>by have:=(hA ad e).2;have:=h0.size;exact ⟨by omega,by omega⟩) hD hn hb hl).mono fun e w' ⟨h1,vF',h2,h3,h4⟩=>⟨h1,vF',h2,⟨h0.trans2 h2.b,h3,(fieldT_go m h.i).le⟩,h4⟩
 have HD:=Lib.hid hD
 have HS:=Lib.hid hS
 have hbadz:(!ok)=bad0:=hbad0
 have R0:Hid (RdI W1 B a n c W1 ⟨0,bad0⟩):=Lib.hid ⟨But.of (Below.refl _ _),P0.out,Nat.zero_le _⟩
 clear hT1 hW1 hA hD hS SP P0 hbad0 hbadz
 go_upto_region 6 with (go_at_call 29;with_reducible refine (CT.out 1 ⟨#[115,121,110,116,97,120]⟩ z0e _ _ R0.out).mono ?_;rintro e w2 ⟨rfl,hg,hk⟩;have R1:=Lib.hid hg;have KR1:=Lib.hid hk;clear hg hk;obtain ⟨_,_,_⟩:=R1.out.p.c)
 go_upto_region 7 with (go_at_call 29;with_reducible refine (CT.out 4 ⟨#[61]⟩ z0e _ _ R1.out).mono ?_;rintro e w3 ⟨rfl,hg,hk⟩;have R2:=Lib.hid hg;have KR2:=Lib.hid hk;clear hg hk;obtain ⟨_,_,_⟩:=R2.out.p.c)
 go_upto_region 8 with (go_at_call 29;with_reducible refine (CT.out 3 ⟨#[112,114,111,116,111,51]⟩ z0e _ _ R2.out).mono ?_;rintro e w4 ⟨rfl,hg,hk⟩;have R3:=Lib.hid hg;have KR3:=Lib.hid hk;clear hg hk;obtain ⟨_,_,_⟩:=R3.out.p.c)
 go_upto_region 9 with (go_at_call 29;with_reducible refine (CT.out 4 ⟨#[59]⟩ z0e _ _ R3.out).mono ?_;rintro e w5 ⟨rfl,hg,hk⟩;have R4:=Lib.hid hg;have KR4:=Lib.hid hk;clear hg hk;obtain ⟨_,_,_⟩:=R4.out.p.c)
 obtain ⟨r0,hr0⟩:∃ x,(((Rd.take K S n ⟨0,bad0⟩ 1 ⟨#[115,121,110,116,97,120]⟩).take K S n 4 ⟨#[61]⟩).take K S n 3 ⟨#[112,114,111,116,111,51]⟩).take K S n 4 ⟨#[59]⟩=x:=⟨_,rfl⟩
 have R5:Hid (RdI W1 B a n c w5 r0):=by rw [← hr0];exact R4
 have hL0:msgsT K S n (n+1) r0 []=loadT K S n bad0:=by rw [← hr0];rfl
 have HL0:=Lib.hid hL0
 clear hL0 R0 R1 R2 R3 R4 KR1 KR2 KR3 KR4
 repeat any_goals (first|go_skip|go_guarded|go_step|go_upon|(simp only [];done))
 go_loopw [7] (fun v wq=>∃ (f:Nat) (r1:Rd) (l:List MR),OutI W1 B wq v l∧RdI W1 B a n c wq r1∧l.length≤r1.i+(if r1.bad=true then 1 else 0)∧(∀ x ∈ l,x.m.Ok)∧msgsT K S n f r1 (l.map MR.m)=loadT K S n bad0∧r1.left0 n≤f) (fun _ wq=>leftW0 n wq B)
 case atStart=>exact ⟨n+1,r0,[],⟨R5.out.b,hBW,World.ownsRow_nil _ _ _ _,fun x hx=>(by cases hx)⟩,R5.out,Nat.zero_le _,fun x hx=>(by cases hx),HL0.out,by unfold Rd.left0;split <;> omega⟩
 case round=>
  obtain ⟨f,⟨i1,b1⟩,l,hO,hRd,hlen,hok,hE,hf⟩:=hrel
  obtain ⟨p0,p1,p2⟩:=hRd.p.c
  have HO:=Lib.hid hO
  have HRd:=Lib.hid hRd
  have HLen:=Lib.hid hlen
  have HOk:=Lib.hid hok
  have HE:=Lib.hid hE
  have HF:=Lib.hid hf
  clear hO hRd hlen hok hE hf
  cases b1 with
  | true=>
   have hbad:(loadT K S n bad0).1.bad=true:=by rw [← HE.out,msgsT_end (r:=⟨i1,true⟩) f (l.map MR.m) (.inl rfl)]
   have hno:loadR s=none:=HR.out.trans (if_pos hbad)
   repeat any_goals (first|go_region|go_skip|go_guarded|go_step|go_upon|(dsimp only []))
   exact bodyPost_ret (v:=.tuple #[.slice none 0 0,.int .i64 3]) (by simp [results,Tryz.results17,go_sem]) rfl ⟨But.bw HB.out (HRd.out.b.trans2 (But.of zb2)) hBw hBw,.inl ⟨hno,rfl⟩⟩
  | false=>
   by_cases hi:n≤i1
   ·have hin:¬ (i1:Int) < (n:Int):=by omega
    have e:loadT K S n bad0=(⟨i1,false⟩,l.map MR.m):=HE.out.symm.trans (msgsT_end (r:=⟨i1,false⟩) f (l.map MR.m) (.inr hi))
    have hso:loadR s=some (l.map MR.m):=by rw [HR.out,e];rfl
    obtain ⟨aO,cO,A,rfl,hPL⟩:=HO.out.pl HOk.out
    obtain ⟨z,hz⟩:∃ z,checkI (pmsOf (l.map MR.m) A) l.length=z:=⟨_,rfl⟩
    have CC:Hid (∀ wx:World,Below wr.heap.size wr wx→Calls Tryz.prog 23 #[.slice aO l.length cO] wx fun e w'=>e=.returned (.int .i64 z)∧Below wx.heap.size wx w'):=by rw [← hz];exact Lib.hid fun wx hx=>RCheck_any aO l.length cO (pmsOf (l.map MR.m) A) wx (hPL.below hx)
    have HPL:=Lib.hid hPL
    have hlm:(l.map MR.m).length=l.length:=List.length_map _
    clear hPL
    by_cases h0:z=0
    ·subst h0
     repeat any_goals (first|go_region|(go_at_call 23;with_reducible refine (CC.out _ zb2).mono ?_;rintro e w2 ⟨rfl,hx2⟩)|go_skip|go_guarded|go_step|go_upon|(dsimp only []))
     have hb2:Below wr.heap.size wr w2:=zb2
     exact bodyPost_ret (v:=.tuple #[.slice aO l.length cO,.int .i64 0]) (by simp [results,Tryz.results17,go_sem]) rfl ⟨But.bw HB.out (HRd.out.b.trans2 (But.of hb2)) hBw hBw,.inr ⟨l.map MR.m,aO,cO,A,hso,by rw [hlm];exact HPL.out.below hb2,.inl ⟨by rw [hlm];exact hz,by rw [hlm]⟩⟩⟩
    ·have h1:(z == 0)=false:=by simp [h0]
     repeat any_goals (first|go_region|(go_at_call 23;with_reducible refine (CC.out _ zb2).mono ?_;rintro e w2 ⟨rfl,hx2⟩)|go_skip|go_guarded|go_step|go_upon|(dsimp only []))
     have hb2:Below wr.heap.size wr w2:=zb2
     exact bodyPost_ret (v:=.tuple #[.slice none 0 0,.int .i64 z]) (by simp [results,Tryz.results17,go_sem]) rfl ⟨But.bw HB.out (HRd.out.b.trans2 (But.of hb2)) hBw hBw,.inr ⟨l.map MR.m,aO,cO,A,hso,by rw [hlm];exact HPL.out.below hb2,.inr ⟨by rw [hlm,hz];exact h0,by rw [hlm,hz]⟩⟩⟩
   ·have hin:(i1:Int) < (n:Int):=by omega
    have hf1:n - i1≤f:=HF.out
    cases f with
    | zero=>omega
    | succ f=>
    clear hf1
    go_upto_region 11 with go_region
    have R1:=Lib.hid (HRd.out.low (Below.refl wr.heap.size wr).drew)
    have O1:=Lib.hid (HO.out.but (But.of (Below.refl wr.heap.size wr).drew))
    generalize wr.drew=wd at *
    go_upto_region 12 with (go_at_call 29;with_reducible refine (CT.out 1 ⟨#[109,101,115,115,97,103,101]⟩ z0e _ _ R1.out).mono ?_;rintro e w2 ⟨rfl,hg,hk⟩;have R2:=Lib.hid hg;have KR2:=Lib.hid hk;clear hg hk;obtain ⟨_,_,_⟩:=R2.out.p.c)
    have O2:=Lib.hid (O1.out.but KR2.out)
    clear O1 R1 KR2
    obtain ⟨r2,hr2⟩:∃ x,Rd.take K S n ⟨i1,false⟩ 1 ⟨#[109,101,115,115,97,103,101]⟩=x:=⟨_,rfl⟩
    have R3:Hid (RdI W1 B a n c w2 r2):=by rw [← hr2];exact R2
    clear R2
    obtain ⟨nm,hnm⟩:∃ x,r2.text K S n 1=x:=⟨_,rfl⟩
    have CWm:Hid (∀ wx:World,RdI W1 B a n c wx r2→Calls Tryz.prog 30 #[.pointer (some ⟨B,0,none⟩),.int .i64 1] wx fun e w'=>e=.returned (.string nm)∧RdI W1 B a n c w' (r2.word K n 1)∧But B B wx w'):=by rw [← hnm];exact Lib.hid fun wx h=>CW.out 1 z0e r2 wx h
    go_upto_region 13 with (go_at_call 30;with_reducible refine (CWm.out _ R3.out).mono ?_;rintro e w3 ⟨rfl,hg,hk⟩;have R4:=Lib.hid hg;have K4:=Lib.hid hk;clear hg hk)
    have hlt3:B < w3.heap.size:=R4.out.p.lt
    have M5:=Lib.hid (msi_new (w:=w3) nm 45 hlt3)
    have R5:=Lib.hid (R4.out.low (below_alloc (Below.refl w3.heap.size w3) (.cells #[.string nm,.slice none 0 0,.slice none 0 0,.slice none 0 0] 45)))
    have B3:=Lib.hid R4.out.b
    have O3:=Lib.hid (O2.out.but K4.out)
    clear R4 K4 O2 R3 CWm
    generalize w3.alloc (.cells #[.string nm,.slice none 0 0,.slice none 0 0,.slice none 0 0] 45)=w5 at *
    repeat any_goals (first|(go_at_call 29;with_reducible refine (CT.out 4 ⟨#[123]⟩ z0e _ _ R5.out).mono ?_;rintro e w6 ⟨rfl,hg,hk⟩;have R6:=Lib.hid hg;have KR6:=Lib.hid hk;clear hg hk;obtain ⟨_,_,_⟩:=R6.out.p.c)|go_skip|go_guarded|go_step|go_upon|(dsimp only []))
    have M6:=Lib.hid (M5.out.but KR6.out)
    obtain ⟨r6,hr6⟩:∃ x,(r2.word K n 1).take K S n 4 ⟨#[123]⟩=x:=⟨_,rfl⟩
    have R7:Hid (RdI W1 B a n c w6 r6):=by rw [← hr6];exact R6
    have hmsg:msgT K S n ⟨i1,false⟩=bodyT K S n (n+1) r6 ⟨nm,[],[],[]⟩:=by rw [← hr6,← hnm,← hr2];rfl
    have HMsg:=Lib.hid hmsg
    clear hmsg hr6 hnm hr2 R6 M5 R5 KR6
    go_loopw [55] (fun _ wq=>∃ (f2:Nat) (r7:Rd) (m7:MB) (vF vN vS:Value),MsI w3 B wq m7 vF vN vS∧RdI W1 B a n c wq r7∧LenI n r7 m7∧bodyT K S n f2 r7 m7=msgT K S n ⟨i1,false⟩∧r7.left n≤f2) (fun _ wq=>leftW n wq B)
    case atStart=>exact ⟨n+1,r6,⟨nm,[],[],[]⟩,_,_,_,M6.out,R7.out,⟨R7.out.i,Nat.zero_le _,Nat.zero_le _,Nat.zero_le _⟩,HMsg.out.symm,by unfold Rd.left;split <;> omega⟩
    case round=>
     obtain ⟨f2,⟨i7,b7⟩,m7,vF,vN,vS,hM7,hR7,hL7,hE7,hf7⟩:=hrel
     have M7:=Lib.hid hM7
     have R8:=Lib.hid hR7
     have L7:=Lib.hid hL7
     have E7:=Lib.hid hE7
     have F7:=Lib.hid hf7
     obtain ⟨_,_,_⟩:=R8.out.p.c
     clear hM7 hR7 hL7 hE7 hf7
     cases b7 with
     | true=>
      have hx:msgT K S n ⟨i1,false⟩=(⟨i7,true⟩,m7):=E7.out.symm.trans (bodyT_bad f2 m7 rfl)
      go_upto_region 18 with fail
      have O8:=Lib.hid (O3.out.but M7.out.b)
      have hge:W1.heap.size≤w3.heap.size:=B3.out.size
      have X8:Hid (MR.At W1.heap.size wr ⟨m7,vF,vN,vS⟩):=Lib.hid ⟨own_low M7.out.oF z0c,own_low M7.out.oN z0c,own_low M7.out.oS z0c⟩
      obtain ⟨iM,hiM,hM0,hM1,hM2⟩:=info_parts infoPM
      have hA:=below_alloc (Below.refl wr.heap.size wr) (.cells #[.string m7.name,vF,vN,vS] 45)
      have hsz:W1.heap.size≤wr.heap.size:=R8.out.b.size
      have hln:l.length≤n:=by have h1:=HLen.out;have h2:=HRd.out.i;simp at h1 h2;omega
      obtain ⟨_,_,_,_⟩:=M7.out.c
      repeat any_goals (first|(at_builtin;refine wpList_append_own _ rfl (.tmp 73) (.tmp 75) 22 rfl W1.heap.size 45 iM (.agg #[.string ⟨#[]⟩,.slice none 0 0,.slice none 0 0,.slice none 0 0]) 4 88 Tryz.underlying22 hiM hM0 hM1 hM2 rfl z0e _ l.length (rowMR l) rfl (O8.out.o.alloc _) _ 1 1 (MR.cells ⟨m7,vF,vN,vS⟩) rfl rfl (news_four z0z) X8.out.one (len_max z0c rfl) z0c z0a1 ?_;intro v1 w9 own1 hg1 hj1)|go_skip|go_guarded|go_step|go_upon|(dsimp only []))
      have AP:=Lib.hid (ap1_of hA hg1 own1)
      have O9:=Lib.hid (O8.out.push ⟨m7,vF,vN,vS⟩ X8.out AP.out)
      have R9:Hid (RdI W1 B a n c w9 ⟨i7,true⟩):=Lib.hid ⟨O9.out.b,R8.out.p.same (AP.out.block B R8.out.p.lt (fun h=>by have:=(O8.out.o.lt _ h.symm).1;omega)),R8.out.i⟩
      have hgo:Rd.Go n ⟨i1,false⟩ ⟨i7,true⟩:=by have h:=msgT_go (K:=K) (S:=S) (n:=n) (r:=⟨i1,false⟩) (by show i1≤n;omega);rw [hx] at h;exact h
      have hok7:m7.Ok:=by have h:=msgT_ok HS.out HD.out (K:=K) (S:=S) (n:=n) ⟨i1,false⟩;rw [hx] at h;exact h
      go_roundw
      case rel=>
       refine ⟨f,⟨i7,true⟩,l ++ [⟨m7,vF,vN,vS⟩],O9.out,R9.out,?_,?_,?_,?_⟩
       ·exact z37zk1
       ·intro y hy;rcases List.mem_append.1 hy with hy|hy;exact HOk.out y hy;rw [List.mem_singleton] at hy;subst hy;exact hok7
       ·rw [List.map_append,← HE.out,msgsT_go f (l.map MR.m) (r:=⟨i1,false⟩) z0a1,hx];rfl
       ·have h1:=hgo.left0 rfl (by show i1 < n;omega);have h2:=HF.out;omega
      case measure=>rw [leftW0_of R9.out.p,leftW0_of HRd.out.p];exact hgo.left0 rfl (by show i1 < n;omega)
     | false=>
      cases f2 with
      | zero=>exact absurd F7.out (by unfold Rd.left;simp)
      | succ f2=>
      obtain ⟨t,ht⟩:∃ x,Rd.is K S n ⟨i7,false⟩ 4 ⟨#[125]⟩=x:=⟨_,rfl⟩
      have CI7:Hid (∀ wx:World,RdI W1 B a n c wx ⟨i7,false⟩→Calls Tryz.prog 31 #[.pointer (some ⟨B,0,none⟩),.agg #[.int .i64 4,.string ⟨#[125]⟩]] wx fun e w'=>e=.returned (.bool t)∧RdI W1 B a n c w' (Rd.pass K S n ⟨i7,false⟩ 4 ⟨#[125]⟩)∧But B B wx w'):=by rw [← ht];exact Lib.hid fun wx h=>CI.out 4 ⟨#[125]⟩ z0e ⟨i7,false⟩ wx h
      cases t with
      | true=>
       have hx0:msgT K S n ⟨i1,false⟩=(Rd.pass K S n ⟨i7,false⟩ 4 ⟨#[125]⟩,m7):=E7.out.symm.trans (bodyT_end f2 m7 rfl ht)
       obtain ⟨r8,hr8⟩:∃ x,Rd.pass K S n ⟨i7,false⟩ 4 ⟨#[125]⟩=x:=⟨_,rfl⟩
       rw [hr8] at CI7 hx0
       have hx:=hx0
       clear hx0
       go_upto_region 18 with (go_at_call 31;with_reducible refine (CI7.out _ R8.out).mono ?_;rintro e w7 ⟨rfl,hg,hk⟩;have RZ:=Lib.hid hg;have M8:=Lib.hid (M7.out.but hk);clear hg hk)
       have O8:=Lib.hid (O3.out.but M8.out.b)
       have hge:W1.heap.size≤w3.heap.size:=B3.out.size
       have X8:Hid (MR.At W1.heap.size w7 ⟨m7,vF,vN,vS⟩):=Lib.hid ⟨own_low M8.out.oF z0c,own_low M8.out.oN z0c,own_low M8.out.oS z0c⟩
       obtain ⟨iM,hiM,hM0,hM1,hM2⟩:=info_parts infoPM
       have hA:=below_alloc (Below.refl w7.heap.size w7) (.cells #[.string m7.name,vF,vN,vS] 45)
       have hsz:W1.heap.size≤w7.heap.size:=RZ.out.b.size
       have hln:l.length≤n:=by have h1:=HLen.out;have h2:=HRd.out.i;simp at h1 h2;omega
       obtain ⟨_,_,_,_⟩:=M8.out.c
       repeat any_goals (first|(at_builtin;refine wpList_append_own _ rfl (.tmp 73) (.tmp 75) 22 rfl W1.heap.size 45 iM (.agg #[.string ⟨#[]⟩,.slice none 0 0,.slice none 0 0,.slice none 0 0]) 4 88 Tryz.underlying22 hiM hM0 hM1 hM2 rfl z0e _ l.length (rowMR l) rfl (O8.out.o.alloc _) _ 1 1 (MR.cells ⟨m7,vF,vN,vS⟩) rfl rfl (news_four z0z) X8.out.one (len_max z0c rfl) z0c z0a1 ?_;intro v1 w9 own1 hg1 hj1)|go_skip|go_guarded|go_step|go_upon|(dsimp only []))
       have AP:=Lib.hid (ap1_of hA hg1 own1)
       have O9:=Lib.hid (O8.out.push ⟨m7,vF,vN,vS⟩ X8.out AP.out)
       have R9:Hid (RdI W1 B a n c w9 r8):=Lib.hid ⟨O9.out.b,RZ.out.p.same (AP.out.block B RZ.out.p.lt (fun h=>by have:=(O8.out.o.lt _ h.symm).1;omega)),RZ.out.i⟩
       have hgo:Rd.Go n ⟨i1,false⟩ r8:=by have h:=msgT_go (K:=K) (S:=S) (n:=n) (r:=⟨i1,false⟩) (by show i1≤n;omega);rw [hx] at h;exact h
       have hok7:m7.Ok:=by have h:=msgT_ok HS.out HD.out (K:=K) (S:=S) (n:=n) ⟨i1,false⟩;rw [hx] at h;exact h
       go_roundw
       case rel=>
        refine ⟨f,r8,l ++ [⟨m7,vF,vN,vS⟩],O9.out,R9.out,?_,?_,?_,?_⟩
        ·exact z37zk1
        ·intro y hy;rcases List.mem_append.1 hy with hy|hy;exact HOk.out y hy;rw [List.mem_singleton] at hy;subst hy;exact hok7
        ·rw [List.map_append,← HE.out,msgsT_go f (l.map MR.m) (r:=⟨i1,false⟩) z0a1,hx];rfl
        ·have h1:=hgo.left0 rfl (by show i1 < n;omega);have h2:=HF.out;omega
       case measure=>rw [leftW0_of R9.out.p,leftW0_of HRd.out.p];exact hgo.left0 rfl (by show i1 < n;omega)
      | false=>
       rw [pass_no ht] at CI7
       go_upto_region 15 with (go_at_call 31;with_reducible refine (CI7.out _ R8.out).mono ?_;rintro e w7 ⟨rfl,hg,hk⟩;have RZ:=Lib.hid hg;have M8:=Lib.hid (M7.out.but hk);clear hg hk)
       have hi7:i7≤n:=RZ.out.i
       obtain ⟨t2,ht2⟩:∃ x,Rd.is K S n ⟨i7,false⟩ 1 ⟨#[114,101,115,101,114,118,101,100]⟩=x:=⟨_,rfl⟩
       have CI8:Hid (∀ wx:World,RdI W1 B a n c wx ⟨i7,false⟩→Calls Tryz.prog 31 #[.pointer (some ⟨B,0,none⟩),.agg #[.int .i64 1,.string ⟨#[114,101,115,101,114,118,101,100]⟩]] wx fun e w'=>e=.returned (.bool t2)∧RdI W1 B a n c w' (Rd.pass K S n ⟨i7,false⟩ 1 ⟨#[114,101,115,101,114,118,101,100]⟩)∧But B B wx w'):=by rw [← ht2];exact Lib.hid fun wx h=>CI.out 1 ⟨#[114,101,115,101,114,118,101,100]⟩ z0e ⟨i7,false⟩ wx h
       cases t2 with
       | true=>
        repeat any_goals (first|(go_at_call 31;with_reducible refine (CI8.out _ RZ.out).mono ?_;rintro e w8 ⟨rfl,hg,hk⟩;have RY:=Lib.hid hg;have M9:=Lib.hid (M8.out.but hk);have LY:=Lib.hid (L7.out.pass (K:=K) (S:=S) 1 z0e ⟨#[114,101,115,101,114,118,101,100]⟩);clear hg hk)|(go_at_call 32;with_reducible refine (CR.out (Rd.pass K S n ⟨i7,false⟩ 1 ⟨#[114,101,115,101,114,118,101,100]⟩) m7 w3 _ vF vN vS B3.out RY.out M9.out rfl LY.out).mono ?_;rintro e w9 ⟨rfl,vN',vS',hg,hk,hl⟩)|go_skip|go_guarded|go_step|go_upon|(dsimp only []))
        have hgo:Rd.Go n ⟨i7,false⟩ (resT K S n (Rd.pass K S n ⟨i7,false⟩ 1 ⟨#[114,101,115,101,114,118,101,100]⟩) m7).1:=(pass_le (r:=⟨i7,false⟩) hi7 1 z0e ⟨#[114,101,115,101,114,118,101,100]⟩).go (resT_go m7 (rd_take_le (r:=⟨i7,false⟩) z0e hi7))
        go_roundw
        case rel=>exact ⟨f2,(resT K S n (Rd.pass K S n ⟨i7,false⟩ 1 ⟨#[114,101,115,101,114,118,101,100]⟩) m7).1,(resT K S n (Rd.pass K S n ⟨i7,false⟩ 1 ⟨#[114,101,115,101,114,118,101,100]⟩) m7).2,vF,vN',vS',hg,hk,hl,(bodyT_res f2 m7 rfl ht ht2).symm.trans E7.out,by have h1:=hgo.left rfl;have h2:=F7.out;omega⟩
        case measure=>rw [leftW_of hk.p,leftW_of R8.out.p];exact hgo.left rfl
       | false=>
        rw [pass_no ht2] at CI8
        repeat any_goals (first|(go_at_call 31;with_reducible refine (CI8.out _ RZ.out).mono ?_;rintro e w8 ⟨rfl,hg,hk⟩;have RY:=Lib.hid hg;have M9:=Lib.hid (M8.out.but hk);have LY:=L7;clear hg hk)|(go_at_call 33;with_reducible refine (CF.out ⟨i7,false⟩ m7 w3 _ vF vN vS B3.out RY.out M9.out rfl LY.out).mono ?_;rintro e w9 ⟨rfl,vF',hg,hk,hl⟩)|go_skip|go_guarded|go_step|go_upon|(dsimp only []))
        have hgo:Rd.Go n ⟨i7,false⟩ (fieldT K S n ⟨i7,false⟩ m7).1:=fieldT_go m7 hi7
        go_roundw
        case rel=>exact ⟨f2,(fieldT K S n ⟨i7,false⟩ m7).1,(fieldT K S n ⟨i7,false⟩ m7).2,vF',vN,vS,hg,hk,hl,(bodyT_fld f2 m7 rfl ht ht2).symm.trans E7.out,by have h1:=hgo.left rfl;have h2:=F7.out;omega⟩
        case measure=>rw [leftW_of hk.p,leftW_of R8.out.p];exact hgo.left rfl
def tolS:ByteArray:=⟨#[115,121,110,116,97,120,32,61,32,34,112,114,111,116,111,51,34,59,32,109,101,115,115,97,103,101,32,77,32,123,32,105,110,116,51,50,32,120,32,61,32,49,59,32,125]⟩
def pfX:PF:=⟨⟨#[120]⟩,⟨#[105,110,116,51,50]⟩,1,false,false,false⟩
def tolL:List MB:=[⟨⟨#[77]⟩,[pfX],[],[]⟩]
theorem tol_read:loadR tolS=some tolL:=by kernel_rfl
theorem tol_check (A:Nat→Ad6):checkI (pmsOf tolL A) 1=0:=by kernel_rfl
def flatV (kind:Int) (neg:Bool) (V bits:Nat) (text:ByteArray):VT:=.mk kind neg V bits text none 0 0 (fun _=>.nil) none 0 0 (fun _=>⟨#[]⟩)
def recX (a b:Nat) (x:VT):VT:=.mk 8 false 0 0 ⟨#[]⟩ (some ⟨a,0,none⟩) 1 1 (fun _=>x) (some ⟨b,0,none⟩) 1 1 (fun _=>⟨#[120]⟩)
theorem tol_valid (A:Nat→Ad6) (a b:Nat):validB (pmsOf tolL A) 1 (recX a b (flatV 3 false 0 0 ⟨#[]⟩))=true:=by kernel_rfl
theorem tol_null (A:Nat→Ad6):validB (pmsOf tolL A) 1 (flatV 1 false 0 0 ⟨#[]⟩)=false:=by kernel_rfl
theorem tol_norm (A:Nat→Ad6) (a b:Nat) {t:VT} (h:Sim t ((nrm2 (pmsOf tolL A) 1 (recX a b (flatV 3 false 0 0 ⟨#[]⟩))).msg (pmsOf tolL A 0))):∃ neg V bits text aL nL cL kids aK cK keys,t=.mk 8 neg V bits text aL nL cL kids aK 0 cK keys:=by
 cases t with
 | nil=>exact h.nil_l.elim
 | mk kind neg V bits text aL nL cL kids aK nK cK keys=>
  unfold recX at h
  rw [nrm_msg] at h
  obtain ⟨⟨rfl,-,-,-,-,-,hk⟩,-,-⟩:=sim_mk.1 h
  have e:nK=0:=hk.trans z0a
  subst e
  exact ⟨_,_,_,_,_,_,_,_,_,_,_,rfl⟩
theorem flat_in (w:World) (kind:Int) (neg:Bool) (V bits:Nat) (text:ByteArray) (h:VOwn kind V bits text 0 0 0 0):(flatV kind neg V bits text).In w:=⟨h,.inl rfl,fun _ hi=>absurd hi (Nat.not_lt_zero _),.inl rfl⟩
theorem rec_in {w:World} {a b:Nat} {x:VT} (hx:x.In w) (ha:a < w.heap.size) (hb:b < w.heap.size) (hc:∀ j,j < 10→w.cell? ⟨a,j,none⟩=x.cells[j]?) (hk:w.cell? ⟨b,0,none⟩=some (.string ⟨#[120]⟩)):(recX a b x).In w:=by
 refine ⟨⟨by decide,by decide,by decide,by decide,Nat.zero_le _,Nat.le_refl _,by decide,Nat.le_refl _,by decide⟩,.inr ⟨a,0,rfl,ha,fun i hi j hj=>?_⟩,fun _ _=>hx,.inr ⟨b,0,rfl,hb,fun i hi=>?_⟩⟩
 ·obtain rfl:i=0:=by omega
  rw [Nat.zero_mul,Nat.zero_add]
  exact hc j hj
 ·obtain rfl:i=0:=by omega
  exact ⟨hk,by decide⟩
/-- **told** -/
theorem told23_any (w:World) (hU:U8T w) (hT:Tab w):Calls Tryz.prog 8 #[] w fun e w'=>e=.returned (.bool true)∧Below w.heap.size w w':=by
 have CL:Hid (Calls Tryz.prog 17 #[.string ⟨#[115,121,110,116,97,120,32,61,32,34,112,114,111,116,111,51,34,59,32,109,101,115,115,97,103,101,32,77,32,123,32,105,110,116,51,50,32,120,32,61,32,49,59,32,125]⟩] w fun e w'=>∃ (a:Option Addr) (c:Nat) (A:Nat→Ad6),e=.returned (.tuple #[.slice a 1 c,.int .i64 0])∧PL w' a 1 c (pmsOf tolL A)∧Below w.heap.size w w'):=Lib.hid ((RLoad_any tolS z0e w).mono fun e w' h=>by
  rcases h with ⟨hb,⟨h1,-⟩|⟨l,a,c,A,h1,h2,h3⟩⟩
  ·rw [tol_read] at h1;cases h1
  ·rw [tol_read] at h1
   injection h1 with h1
   subst h1
   rcases h3 with ⟨-,h4⟩|⟨h4,-⟩
   ·exact ⟨a,c,A,h4,h2,hb⟩
   ·exact absurd (tol_check A) h4)
 go_enter Tryz.func8,Tryz.ntmps8
 go_upto_region 2 with (go_at_call 17;with_reducible refine CL.out.mono ?_;rintro e w1 ⟨a,c,A,rfl,hPL,hb1⟩;have HPL:=Lib.hid hPL;clear hPL)
 go_upto_region 3 with fail
 obtain ⟨W3,hW3⟩:∃ x,x=(((w1.alloc (.cells #[.string ⟨#[120]⟩] 9)).alloc (.cells #[.int .i64 3,.bool false,.int .u64 0,.int .u64 0,.int .u64 0,.int .u64 0,.int .u64 0,.string ⟨#[]⟩,.slice none 0 0,.slice none 0 0] 31)).alloc (.cells #[.int .i64 8,.bool false,.int .u64 0,.int .u64 0,.int .u64 0,.int .u64 0,.int .u64 0,.string ⟨#[]⟩,.slice (some ⟨w1.heap.size+1,0,none⟩) 1 1,.slice (some ⟨w1.heap.size,0,none⟩) 1 1] 31)):=⟨_,rfl⟩
 have hx3:Below w1.heap.size w1 W3:=by rw [hW3];exact zb2
 have hsz:W3.heap.size=w1.heap.size+3:=by rw [hW3];simp
 have hin:(recX (w1.heap.size+1) w1.heap.size (flatV 3 false 0 0 ⟨#[]⟩)).In W3:=by
  refine rec_in (flat_in _ _ _ _ _ _ ⟨by decide,by decide,by decide,by decide,Nat.zero_le _,Nat.le_refl _,Nat.zero_le _,Nat.le_refl _,Nat.zero_le _⟩) z0c z0c (fun j hj=>?_) (by rw [hW3];simp [go_sem])
  rw [hW3]
  match j with
  | 0=>simp [go_sem];rfl
  | 1=>simp [go_sem];rfl
  | 2=>simp [go_sem];rfl
  | 3=>simp [go_sem];rfl
  | 4=>simp [go_sem];rfl
  | 5=>simp [go_sem];rfl
  | 6=>simp [go_sem];rfl
  | 7=>simp [go_sem];rfl
  | 8=>simp [go_sem];rfl
  | 9=>simp [go_sem];rfl
  | j+10=>omega
 have X3:Hid (RBx W3 (w1.heap.size+1+1) (.int .i64 8) (.bool false) (.int .u64 0) (.int .u64 0) (.int .u64 0) (.int .u64 0) (.int .u64 0) (.string ⟨#[]⟩) (.slice (some ⟨w1.heap.size+1,0,none⟩) 1 1) (.slice (some ⟨w1.heap.size,0,none⟩) 1 1)):=by rw [hW3];exact Lib.hid ⟨by simp [go_sem]⟩
 rw [← hW3]
 clear hW3
 have hB1:=below_trans hb1 hx3
 have CN:Hid (∀ wx:World,Below W3.heap.size W3 wx→Calls Tryz.prog 9 #[.slice a 1 c,.agg #[.int .i64 8,.bool false,.int .u64 0,.int .u64 0,.int .u64 0,.int .u64 0,.int .u64 0,.string ⟨#[]⟩,.slice (some ⟨w1.heap.size+1,0,none⟩) 1 1,.slice (some ⟨w1.heap.size,0,none⟩) 1 1]] wx fun e w'=>∃ (neg:Bool) (V bits:Nat) (text:ByteArray) (aL:Option Addr) (nL cL:Nat) (aK:Option Addr) (cK:Nat),e=.returned (.tuple #[.agg #[.int .i64 8,.bool neg,.int .u64 (lm V 0:Nat),.int .u64 (lm V 1:Nat),.int .u64 (lm V 2:Nat),.int .u64 (lm V 3:Nat),.int .u64 (bits:Nat),.string text,.slice aL nL cL,.slice aK 0 cK],.bool true])∧Below wx.heap.size wx w'):=Lib.hid fun wx hx=>by
  have h:=PNormV_any (pmsOf tolL A) a 1 c (recX (w1.heap.size+1) w1.heap.size (flatV 3 false 0 0 ⟨#[]⟩)) wx (HPL.out.below (below_trans hx3 hx)) (VT.In.below hx _ hin) (Utf8Tabs_below hU (below_trans hB1 hx)) (hT.below (below_trans hB1 hx)) (show (2:Nat) < 4611686018427387904 by decide)
  rw [tol_valid] at h
  refine h.mono ?_
  rintro e w' ⟨t,rfl,h1,h2,-,h4⟩
  obtain ⟨neg,V,bits,text,aL,nL,cL,kids,aK,cK,keys,rfl⟩:=tol_norm A _ _ (h2 rfl).s
  exact ⟨neg,V,bits,text,aL,nL,cL,aK,cK,rfl,h4⟩
 have CV:Hid (∀ wx:World,Below W3.heap.size W3 wx→Calls Tryz.prog 11 #[.slice a 1 c,.agg #[.int .i64 8,.bool false,.int .u64 0,.int .u64 0,.int .u64 0,.int .u64 0,.int .u64 0,.string ⟨#[]⟩,.slice (some ⟨w1.heap.size+1,0,none⟩) 1 1,.slice (some ⟨w1.heap.size,0,none⟩) 1 1]] wx fun e w'=>e=.returned (.bool true)∧Below wx.heap.size wx w'):=Lib.hid fun wx hx=>by
  have h:=PValidM_any (pmsOf tolL A) a 1 c (recX (w1.heap.size+1) w1.heap.size (flatV 3 false 0 0 ⟨#[]⟩)) wx (HPL.out.below (below_trans hx3 hx)) (VT.In.below hx _ hin) (Utf8Tabs_below hU (below_trans hB1 hx)) (hT.below (below_trans hB1 hx)) (show (2:Nat) < 4611686018427387904 by decide)
  rw [tol_valid] at h
  exact h
 have C0:Hid (∀ wx:World,Below W3.heap.size W3 wx→Calls Tryz.prog 11 #[.slice a 1 c,.agg #[.int .i64 1,.bool false,.int .u64 0,.int .u64 0,.int .u64 0,.int .u64 0,.int .u64 0,.string ⟨#[]⟩,.slice none 0 0,.slice none 0 0]] wx fun e w'=>e=.returned (.bool false)∧Below wx.heap.size wx w'):=Lib.hid fun wx hx=>by
  have h:=PValidM_any (pmsOf tolL A) a 1 c (flatV 1 false 0 0 ⟨#[]⟩) wx (HPL.out.below (below_trans hx3 hx)) (flat_in _ _ _ _ _ _ ⟨by decide,by decide,by decide,by decide,Nat.zero_le _,Nat.le_refl _,Nat.zero_le _,Nat.le_refl _,Nat.zero_le _⟩) (Utf8Tabs_below hU (below_trans hB1 hx)) (hT.below (below_trans hB1 hx)) z0e
  rw [tol_null] at h
  exact h
 obtain ⟨_,_,_,_,_,_,_,_,_,_⟩:=X3.out.all
 clear hU hT hin HPL CL hx3
 go_upto_region 4 with (go_at_call 9;with_reducible refine (CN.out _ (Below.refl _ _)).mono ?_;rintro e w4 ⟨neg,V,bits,text,aL,nL,cL,aK,cK,rfl,hb4⟩)
 have A4:=Lib.hid (vbx_new w4 31 8 neg V bits text aL nL cL aK 0 cK)
 have hA4:=below_alloc (Below.refl w4.heap.size w4) (.cells #[.int .i64 8,.bool neg,.int .u64 (lm V 0:Nat),.int .u64 (lm V 1:Nat),.int .u64 (lm V 2:Nat),.int .u64 (lm V 3:Nat),.int .u64 (bits:Nat),.string text,.slice aL nL cL,.slice aK 0 cK] 31)
 generalize (w4.alloc (.cells #[.int .i64 8,.bool neg,.int .u64 (lm V 0:Nat),.int .u64 (lm V 1:Nat),.int .u64 (lm V 2:Nat),.int .u64 (lm V 3:Nat),.int .u64 (bits:Nat),.string text,.slice aL nL cL,.slice aK 0 cK] 31))=W5 at *
 have hx5:=below_trans hb4 hA4
 have X5:=Lib.hid (X3.out.below hx5)
 obtain ⟨_,_,_,_,_,_,_,_,_,_⟩:=X5.out.all
 obtain ⟨_,_,_,_,_,_,_,_,_,_⟩:=A4.out.all
 repeat any_goals (first|(go_at_call 11;with_reducible refine (CV.out _ hx5).mono ?_;rintro e w6 ⟨rfl,hb6⟩;have A6:=Lib.hid (A4.out.below hb6);obtain ⟨_,_,_,_,_,_,_,_,_,_⟩:=A6.out.all)|(go_at_call 11;with_reducible refine (C0.out _ (below_trans hx5 hb6)).mono ?_;rintro e w7 ⟨rfl,hb7⟩)|go_skip|go_guarded|go_step|go_upon|(dsimp only []))
 exact bodyPost_ret (v:=.bool true) (by simp [results,Tryz.results8,go_sem]) rfl ⟨rfl,below_trans hB1 (below_trans hx5 (below_trans hb6 hb7))⟩
end Go.Proofs.YtfondldmmcmloaaGreatDoor
namespace Go.Proofs.YtfondldmmcmloaaGreatDoor
open Go.ChangeShapes Go.WideShapes Go.ChangeAt Go.RowKit
theorem cellsPF6:Tryz.prog.cellsOf 47=6:=by kernel_rfl
theorem cellsPM4:Tryz.prog.cellsOf 45=4:=by kernel_rfl
theorem cellsSP1:Tryz.prog.cellsOf 42=1:=by kernel_rfl
theorem cellsSI1:Tryz.prog.cellsOf 43=1:=by kernel_rfl
theorem list4 {α:Type} (l:List α) (h:l.length=4):∃ a b c d,l=[a,b,c,d]:=by
 match l,h with
 | [a,b,c,d],_=>exact ⟨a,b,c,d,rfl⟩
section
variable {H:Type} {enc:TypeId × Value→H} {W:World} {sp:Nat→Bool} {base:Nat}
theorem open_row {α:Type} [Inhabited α] {sl e:TypeId} {size:Nat} (cells:α→List Value) (hc:∀ x,(cells x).length=size) (h0:0 < size) (In:α→Prop) (he:Tryz.prog.cellsOf e=size) (hu:Tryz.prog.underlying sl=some (.slice e))
  (hel:∀ n2 cs (y:DataW H × List MemPlace),DataW.trod enc Tryz.prog W 0 sp true n2 e cs=some y→∃ x,cells x=cs∧In x) {fuel:Nat} {v:Value} {x:DataW H × List MemPlace} (h:DataW.trod enc Tryz.prog W 0 sp true fuel sl [v]=some x) :
  ∃ (a:Option Addr) (n c:Nat) (X:Nat→α),v=.slice a n c∧n≤c∧c≤maxLen∧(n=0∨∃ b off,a=some ⟨b,off,none⟩∧b < W.heap.size∧∀ i,i < n→∀ j,j < size→W.cell? ⟨b,off+i * size+j,none⟩=(cells (X i))[j]?)∧∀ i,i < n→In (X i):=by
 rcases DataW.trod_slice hu h with ⟨h8,-⟩|⟨a,len,cap,elems,rest,n2,hn2,h8,-,-,hlc,hcm,hel1,hel2,-,-⟩
 ·simp at h8
  exact ⟨none,0,0,fun _=>default,h8,Nat.le_refl _,Nat.zero_le _,.inl rfl,fun i hi=>absurd hi (Nat.not_lt_zero _)⟩
 ·simp at h8
  rw [he] at hel2
  have hex:∀ i,∃ T:α,i < len→In T∧∀ j,j < size→W.cell? ((a.add (i * size)).add j)=(cells T)[j]? := by
   intro i
   by_cases hi:i < len
   ·have h1:=hel2 i hi
    obtain ⟨y,hy⟩:∃ y,elems[i]? = some y:=⟨elems[i]'z0c,List.getElem?_eq_getElem z0c⟩
    rw [hy,Option.bind_eq_some_iff] at h1
    obtain ⟨cs,hcs,hty⟩:=h1
    obtain ⟨T,hT,hin⟩:=hel _ cs y hty
    obtain ⟨-,-,hc⟩:=World.cells?_some hcs
    exact ⟨T,fun _=>⟨hin,fun j hj=>by rw [hT];exact hc j hj⟩⟩
   ·exact ⟨default,fun h=>absurd h hi⟩
  refine ⟨some a,len,cap,fun i=>Classical.choose (hex i),h8,hlc,hcm,?_,fun i hi=>(Classical.choose_spec (hex i) hi).1⟩
  by_cases h0':len=0
  ·exact .inl h0'
  ·have h3:=(Classical.choose_spec (hex 0) z0c).2 0 h0
   have h4:∃ v,(cells (Classical.choose (hex 0)))[0]? = some v:=⟨_,List.getElem?_eq_getElem (by rw [hc];exact h0)⟩
   obtain ⟨v,hv⟩:=h4
   rw [hv] at h3
   have h5:W.cell? (a.add 0)=some v:=by
    have e:(a.add (0 * size)).add 0=a.add 0:=by unfold Addr.add;simp
    rwa [e] at h3
   obtain ⟨ha,hb⟩:=addr_spot h5
   refine .inr ⟨a.block,a.off,by rw [← ha],hb,fun i hi j hj=>?_⟩
   have h6:=(Classical.choose_spec (hex i) hi).2 j hj
   rw [addr_row' ha] at h6
   exact h6
theorem open_PF (fuel:Nat) (cs:List Value) (x:DataW H × List MemPlace) (h:DataW.trod enc Tryz.prog W 0 sp true fuel 47 cs=some x):∃ f:PF,f.cells=cs∧f.Ok:=by
 obtain ⟨xs,n,rfl,rfl,hlen,hxl,hf⟩:=DataW.trod_struct Tryz.underlying47 h
 rw [cellsPF6] at hlen
 obtain ⟨c0,c1,c2,c3,c4,c5,rfl⟩:=list6 cs hlen
 obtain ⟨x0,x1,x2,x3,x4,x5,rfl⟩:=list6 xs hxl
 have t0:DataW.trod enc Tryz.prog W 0 sp true n 9 (([c0,c1,c2,c3,c4,c5].drop 0).take (Tryz.prog.cellsOf 9))=some x0:=hf 0 _ rfl
 have t1:DataW.trod enc Tryz.prog W 0 sp true n 9 (([c0,c1,c2,c3,c4,c5].drop 1).take (Tryz.prog.cellsOf 9))=some x1:=hf 1 _ rfl
 have t2:DataW.trod enc Tryz.prog W 0 sp true n 3 (([c0,c1,c2,c3,c4,c5].drop 2).take (Tryz.prog.cellsOf 3))=some x2:=hf 2 _ rfl
 have t3:DataW.trod enc Tryz.prog W 0 sp true n 4 (([c0,c1,c2,c3,c4,c5].drop 3).take (Tryz.prog.cellsOf 4))=some x3:=hf 3 _ rfl
 have t4:DataW.trod enc Tryz.prog W 0 sp true n 4 (([c0,c1,c2,c3,c4,c5].drop 4).take (Tryz.prog.cellsOf 4))=some x4:=hf 4 _ rfl
 have t5:DataW.trod enc Tryz.prog W 0 sp true n 4 (([c0,c1,c2,c3,c4,c5].drop 5).take (Tryz.prog.cellsOf 4))=some x5:=hf 5 _ rfl
 simp only [cellsI1,cellsB1,cellsStr1,List.drop_succ_cons,List.drop_zero,List.take_succ_cons,List.take_zero] at t0 t1 t2 t3 t4 t5
 obtain ⟨nm,e0,w0⟩:=DataW.trod_string Tryz.underlying9 t0
 obtain ⟨ty,e1,w1⟩:=DataW.trod_string Tryz.underlying9 t1
 obtain ⟨nu,e2,-,w2⟩:=DataW.trod_int Tryz.underlying3 t2
 obtain ⟨o,e3,-⟩:=DataW.trod_bool Tryz.underlying4 t3
 obtain ⟨r,e4,-⟩:=DataW.trod_bool Tryz.underlying4 t4
 obtain ⟨m,e5,-⟩:=DataW.trod_bool Tryz.underlying4 t5
 simp at e0 e1 e2 e3 e4 e5
 subst e0 e1 e2 e3 e4 e5
 obtain ⟨l2,h2⟩:=i64_wf w2
 exact ⟨⟨nm,ty,nu,o,r,m⟩,rfl,⟨w0.2,w1.2,l2,h2⟩⟩
theorem open_PM (fuel:Nat) (cs:List Value) (x:DataW H × List MemPlace) (h:DataW.trod enc Tryz.prog W 0 sp true fuel 45 cs=some x):∃ m:PM,m.cells=cs∧m.In W:=by
 obtain ⟨xs,n,rfl,rfl,hlen,hxl,hf⟩:=DataW.trod_struct Tryz.underlying45 h
 rw [cellsPM4] at hlen
 obtain ⟨c0,c1,c2,c3,rfl⟩:=list4 cs hlen
 obtain ⟨x0,x1,x2,x3,rfl⟩:=list4 xs hxl
 have t0:DataW.trod enc Tryz.prog W 0 sp true n 9 (([c0,c1,c2,c3].drop 0).take (Tryz.prog.cellsOf 9))=some x0:=hf 0 _ rfl
 have t1:DataW.trod enc Tryz.prog W 0 sp true n 42 (([c0,c1,c2,c3].drop 1).take (Tryz.prog.cellsOf 42))=some x1:=hf 1 _ rfl
 have t2:DataW.trod enc Tryz.prog W 0 sp true n 43 (([c0,c1,c2,c3].drop 2).take (Tryz.prog.cellsOf 43))=some x2:=hf 2 _ rfl
 have t3:DataW.trod enc Tryz.prog W 0 sp true n 29 (([c0,c1,c2,c3].drop 3).take (Tryz.prog.cellsOf 29))=some x3:=hf 3 _ rfl
 simp only [cellsSP1,cellsSI1,cellsSS1,cellsStr1,List.drop_succ_cons,List.drop_zero,List.take_succ_cons,List.take_zero] at t0 t1 t2 t3
 obtain ⟨nm,e0,w0⟩:=DataW.trod_string Tryz.underlying9 t0
 simp at e0
 subst e0
 obtain ⟨aF,nF,cF,F,rfl,f1,f2,f3,f4⟩:=open_row PF.cells (fun _=>rfl) z0e PF.Ok cellsPF6 Tryz.underlying42 (fun n2 cs y hy=>open_PF n2 cs y hy) t1
 obtain ⟨aN,nN,cN,N,rfl,g1,g2,g3,g4⟩:=open_row (fun x:Int=>[Value.int .i64 x]) (fun _=>rfl) z0e (fun x => -9223372036854775808≤x∧x < 9223372036854775808) cellsI1 Tryz.underlying43 (fun n2 cs y hy=>by
  obtain ⟨k,e,-,wf⟩:=DataW.trod_int Tryz.underlying3 hy
  exact ⟨k,e.symm,i64_wf wf⟩) t2
 obtain ⟨aS,nS,cS,S,rfl,s1,s2,s3,s4⟩:=open_row (fun x:ByteArray=>[Value.string x]) (fun _=>rfl) z0e (fun x=>x.size≤maxLen) cellsStr1 Tryz.underlying29 (fun n2 cs y hy=>by
  obtain ⟨k,e,wf⟩:=DataW.trod_string Tryz.underlying9 hy
  exact ⟨k,e.symm,wf.2⟩) t3
 refine ⟨⟨nm,aF,nF,cF,F,aN,nN,cN,N,aS,nS,cS,S⟩,rfl,⟨w0.2,⟨f1,f2,f3,f4⟩,⟨g1,g2,?_⟩,⟨s1,s2,?_⟩⟩⟩
 ·rcases g3 with g0|⟨b,off,e,hb,hc⟩
  ·exact .inl g0
  ·exact .inr ⟨b,off,e,hb,fun i hi=>⟨by have h1:=hc i hi 0 Nat.zero_lt_one;rw [Nat.mul_one,Nat.add_zero] at h1;exact h1,(g4 i hi).1,(g4 i hi).2⟩⟩
 ·rcases s3 with s0|⟨b,off,e,hb,hc⟩
  ·exact .inl s0
  ·exact .inr ⟨b,off,e,hb,fun i hi=>⟨by have h1:=hc i hi 0 Nat.zero_lt_one;rw [Nat.mul_one,Nat.add_zero] at h1;exact h1,s4 i hi⟩⟩
/-- an argument that is a slice of messages -/
theorem open_msgs {v:Value} {d:DataW H} {ps:List MemPlace} (hval:Value.okWide Tryz.prog W .any base 22 v) (h:DataW.Trod enc Tryz.prog W 0 sp true 22 v d ps):∃ (a:Option Addr) (n c:Nat) (M:Nat→PM),v=.slice a n c∧PL W a n c M:=by
 obtain ⟨a,len,cap,rfl⟩:=okWide_slice Tryz.underlying22 hval
 obtain ⟨fuel,hf⟩:=h
 obtain ⟨a',n,c,M,e,h1,h2,h3,h4⟩:=open_row PM.cells (fun _=>rfl) z0e (fun m=>m.In W) cellsPM4 Tryz.underlying22 (fun n2 cs y hy=>open_PM n2 cs y hy) hf
 exact ⟨a',n,c,M,e,⟨h1,h2,h3,h4⟩⟩
end
end Go.Proofs.YtfondldmmcmloaaGreatDoor
