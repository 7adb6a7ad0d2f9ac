/- Ld7, NrG, NrI. -/
import Derived.Test.YtfondldmmcmloaaDoorPd26
set_option maxRecDepth 1000000
set_option maxHeartbeats 8000000
namespace Go.Proofs.YtfondldmmcmloaaDoor
open Go Go.RowKit
theorem z27zk1 {p:Prop} (h:p:=by
 have h1:=HLen.out;have h2:=hgo.ge;have h3:=hgo.up;simp only [Bool.false_eq_true,if_false] at h1;rw [List.length_append,List.length_singleton];split
 ·show l.length+1≤_+1;have h2:i1≤_:=h2;omega
 ·next hq=>have h4:=(h3 (by rw [Bool.not_eq_true] at hq;exact hq)).2;show l.length+1≤_+0;have h4:i1+1≤_:=h4;omega):p:=h
end Go.Proofs.YtfondldmmcmloaaDoor
namespace Go.Proofs.YtfondldmmcmloaaDoor
open Go Go.RowKit
theorem infoPM:(Tryd.prog.info? 55).map (fun i=>(i.zero,i.size,i.bytes))=some (some (.agg #[.string ⟨#[]⟩,.slice none 0 0,.slice none 0 0,.slice none 0 0]),4,88):=by kernel_rfl
def LoadQ (s:ByteArray) (w:World) (e:Ending) (w':World):Prop:=
 Below w.heap.size w w'∧((loadR s=none∧e=.returned (.tuple #[.slice none 0 0,.int .i64 3])) ∨
  ∃ (l:List MB) (a:Option Addr) (c:Nat) (A:Nat→Ad6),loadR s=some l∧PL w' a l.length c (pmsOf l A) ∧
   ((checkI (pmsOf l A) l.length=0∧e=.returned (.tuple #[.slice a l.length c,.int .i64 0]))∨(checkI (pmsOf l A) l.length≠0∧e=.returned (.tuple #[.slice none 0 0,.int .i64 (checkI (pmsOf l A) l.length)]))))
/-- **Load** of the document -/
theorem RLoad_any (s:ByteArray) (hs:s.size≤8192) (w:World):Calls Tryd.prog 5 #[.string s] w fun e w'=>LoadQ s w e w':=by
 have CS:=Lib.hid (split_of hs w)
 go_enter Tryd.func5,Tryd.ntmps5
 go_upto_region 4 with (go_at_call 12;with_reducible refine CS.out.mono ?_;rintro e w1 ⟨a,n,c,K,S,ok,rfl,hsp⟩;have SP:=Lib.hid hsp;clear hsp)
 obtain ⟨bad0,hbad0⟩:∃ x,(!ok)=x:=⟨_,rfl⟩
 have P0:=Lib.hid (pbx_new w1 a n c bad0 49)
 have hR:=SP.out.r
 rw [hbad0] at hR
 have HR:=Lib.hid hR
 have hW1:Below w1.heap.size w1 (w1.alloc (.cells #[.slice a n c,.int .i64 0,.bool bad0] 49)):=below_alloc (Below.refl _ _) _
 have hT1:=SP.out.t.below hW1
 have hBW:w1.heap.size < (w1.alloc (.cells #[.slice a n c,.int .i64 0,.bool bad0] 49)).heap.size:=P0.out.lt
 have hA:=SP.out.hA
 have hn:=SP.out.hn
 have hD:=SP.out.d
 have hS:=SP.out.hS
 have HB:=Lib.hid (below_trans SP.out.b hW1)
 clear hR CS
 go_upto_region 5 with fail
 generalize w1.alloc (.cells #[.slice a n c,.int .i64 0,.bool bad0] 49)=W1 at *
 have hBw:w.heap.size≤w1.heap.size:=SP.out.b.size
 generalize w1.heap.size=B at *
 have T:Hid (∀ wx,But B B W1 wx→TIn wx a n c K S):=Lib.hid fun wx hx=>hT1.but hx fun ad e=>⟨by have:=(hA ad e).2;omega,by have:=(hA ad e).2;omega⟩
 have CI:Hid (∀ (k:Int) (s:ByteArray) (hk:k≠0) (r:Rd) (wx:World),RdI W1 B a n c wx r→Calls Tryd.prog 15 #[.pointer (some ⟨B,0,none⟩),.agg #[.int .i64 k,.string s]] wx fun e w'=>e=.returned (.bool (r.is K S n k s))∧RdI W1 B a n c w' (r.pass K S n k s)∧But B B wx w'):=Lib.hid fun k s hk r wx h=>(Is_any B a n c r.i r.bad K S k s wx h.p (T.out wx h.b) (by have:=h.i;omega)).mono fun e w' hx=>⟨hx.1,h.step hx.2.1 hx.2.2 (rd_take_le hk h.i),hx.2.2⟩
 have CT:Hid (∀ (k:Int) (s:ByteArray) (hk:k≠0) (r:Rd) (wx:World),RdI W1 B a n c wx r→Calls Tryd.prog 13 #[.pointer (some ⟨B,0,none⟩),.int .i64 k,.string s] wx fun e w'=>e=.returned (.tuple #[])∧RdI W1 B a n c w' (r.take K S n k s)∧But B B wx w'):=Lib.hid fun k s hk r wx h=>(Take_any B a n c r.i r.bad K S k s wx h.p (T.out wx h.b) (by have:=h.i;omega)).mono fun e w' hx=>⟨hx.1,h.step hx.2.1 hx.2.2 (rd_take_le hk h.i),hx.2.2⟩
 have CW:Hid (∀ (k:Int) (hk:k≠0) (r:Rd) (wx:World),RdI W1 B a n c wx r→Calls Tryd.prog 14 #[.pointer (some ⟨B,0,none⟩),.int .i64 k] wx fun e w'=>e=.returned (.string (r.text K S n k))∧RdI W1 B a n c w' (r.word K n k)∧But B B wx w'):=Lib.hid fun k hk r wx h=>(Word_any B a n c r.i r.bad K S k wx h.p (T.out wx h.b) (by have:=h.i;omega)).mono fun e w' hx=>⟨hx.1,h.step hx.2.1 hx.2.2 (rd_word_le hk h.i),hx.2.2⟩
 have CR:Hid (∀ (r:Rd) (m:MB) (w0 wx:World) (vF vN vS:Value),But B B W1 w0→RdI W1 B a n c wx r→MsI w0 B wx m vF vN vS→r.bad=false→LenI n r m→Calls Tryd.prog 16 #[.pointer (some ⟨B,0,none⟩),.pointer (some ⟨w0.heap.size,0,none⟩)] wx fun e w'=>e=.returned (.tuple #[])∧∃ vN' vS':Value,MsI w0 B w' (resT K S n r m).2 vF vN' vS'∧RdI W1 B a n c w' (resT K S n r m).1∧LenI n (resT K S n r m).1 (resT K S n r m).2):=Lib.hid fun r m w0 wx vF vN vS h0 h hM hb hl=>(Res_any B a n c r m K S w0 wx vF vN vS hM h.p (T.out w0 h0) (fun ad e=>by have:=(hA ad e).2;have:=h0.size;exact ⟨by omega,by omega⟩) hD hn hb hl).mono fun e w' ⟨h1,vN',vS',h2,h3,h4⟩=>⟨h1,vN',vS',h2,⟨h0.trans2 h2.b,h3,(resT_go m h.i).le⟩,h4⟩
 have CF:Hid (∀ (r:Rd) (m:MB) (w0 wx:World) (vF vN vS:Value),But B B W1 w0→RdI W1 B a n c wx r→MsI w0 B wx m vF vN vS→r.bad=false→LenI n r m→Calls Tryd.prog 17 #[.pointer (some ⟨B,0,none⟩),.pointer (some ⟨w0.heap.size,0,none⟩)] wx fun e w'=>e=.returned (.tuple #[])∧∃ vF':Value,MsI w0 B w' (fieldT K S n r m).2 vF' vN vS∧RdI W1 B a n c w' (fieldT K S n r m).1∧LenI n (fieldT K S n r m).1 (fieldT K S n r m).2):=Lib.hid fun r m w0 wx vF vN vS h0 h hM hb hl=>(Fld_any B a n c r m K S w0 wx vF vN vS hM h.p (T.out w0 h0) (fun ad e=>by have:=(hA ad e).2;have:=h0.size;exact ⟨by omega,by omega⟩) hD hn hb hl).mono fun e w' ⟨h1,vF',h2,h3,h4⟩=>⟨h1,vF',h2,⟨h0.trans2 h2.b,h3,(fieldT_go m h.i).le⟩,h4⟩
 have HD:=Lib.hid hD
 have HS:=Lib.hid hS
 have hbadz:(!ok)=bad0:=hbad0
 have R0:Hid (RdI W1 B a n c W1 ⟨0,bad0⟩):=Lib.hid ⟨But.of (Below.refl _ _),P0.out,Nat.zero_le _⟩
 clear hT1 hW1 hA hD hS SP P0 hbad0 hbadz
 go_upto_region 6 with (go_at_call 13;with_reducible refine (CT.out 1 ⟨#[115,121,110,116,97,120]⟩ z0g _ _ R0.out).mono ?_;rintro e w2 ⟨rfl,hg,hk⟩;have R1:=Lib.hid hg;have KR1:=Lib.hid hk;clear hg hk;obtain ⟨_,_,_⟩:=R1.out.p.c)
 go_upto_region 7 with (go_at_call 13;with_reducible refine (CT.out 4 ⟨#[61]⟩ z0g _ _ R1.out).mono ?_;rintro e w3 ⟨rfl,hg,hk⟩;have R2:=Lib.hid hg;have KR2:=Lib.hid hk;clear hg hk;obtain ⟨_,_,_⟩:=R2.out.p.c)
 go_upto_region 8 with (go_at_call 13;with_reducible refine (CT.out 3 ⟨#[112,114,111,116,111,51]⟩ z0g _ _ R2.out).mono ?_;rintro e w4 ⟨rfl,hg,hk⟩;have R3:=Lib.hid hg;have KR3:=Lib.hid hk;clear hg hk;obtain ⟨_,_,_⟩:=R3.out.p.c)
 go_upto_region 9 with (go_at_call 13;with_reducible refine (CT.out 4 ⟨#[59]⟩ z0g _ _ R3.out).mono ?_;rintro e w5 ⟨rfl,hg,hk⟩;have R4:=Lib.hid hg;have KR4:=Lib.hid hk;clear hg hk;obtain ⟨_,_,_⟩:=R4.out.p.c)
 obtain ⟨r0,hr0⟩:∃ x,(((Rd.take K S n ⟨0,bad0⟩ 1 ⟨#[115,121,110,116,97,120]⟩).take K S n 4 ⟨#[61]⟩).take K S n 3 ⟨#[112,114,111,116,111,51]⟩).take K S n 4 ⟨#[59]⟩=x:=⟨_,rfl⟩
 have R5:Hid (RdI W1 B a n c w5 r0):=by rw [← hr0];exact R4
 have hL0:msgsT K S n (n+1) r0 []=loadT K S n bad0:=by rw [← hr0];rfl
 have HL0:=Lib.hid hL0
 clear hL0 R0 R1 R2 R3 R4 KR1 KR2 KR3 KR4
 repeat any_goals (first|go_skip|go_guarded|go_step|go_upon|(simp only [];done))
 go_loopw [7] (fun v wq=>∃ (f:Nat) (r1:Rd) (l:List MR),OutI W1 B wq v l∧RdI W1 B a n c wq r1∧l.length≤r1.i+(if r1.bad=true then 1 else 0)∧(∀ x ∈ l,x.m.Ok)∧msgsT K S n f r1 (l.map MR.m)=loadT K S n bad0∧r1.left0 n≤f) (fun _ wq=>leftW0 n wq B)
 case atStart=>exact ⟨n+1,r0,[],⟨R5.out.b,hBW,World.ownsRow_nil _ _ _ _,fun x hx=>(by cases hx)⟩,R5.out,Nat.zero_le _,fun x hx=>(by cases hx),HL0.out,by unfold Rd.left0;split <;> omega⟩
 case round=>
  obtain ⟨f,⟨i1,b1⟩,l,hO,hRd,hlen,hok,hE,hf⟩:=hrel
  obtain ⟨p0,p1,p2⟩:=hRd.p.c
  have HO:=Lib.hid hO
  have HRd:=Lib.hid hRd
  have HLen:=Lib.hid hlen
  have HOk:=Lib.hid hok
  have HE:=Lib.hid hE
  have HF:=Lib.hid hf
  clear hO hRd hlen hok hE hf
  cases b1 with
  | true=>
   have hbad:(loadT K S n bad0).1.bad=true:=by rw [← HE.out,msgsT_end (r:=⟨i1,true⟩) f (l.map MR.m) (.inl rfl)]
   have hno:loadR s=none:=HR.out.trans (if_pos hbad)
   repeat any_goals (first|go_region|go_skip|go_guarded|go_step|go_upon|(dsimp only []))
   exact bodyPost_ret (v:=.tuple #[.slice none 0 0,.int .i64 3]) (by simp [results,Tryd.results5,go_sem]) rfl ⟨But.bw HB.out (HRd.out.b.trans2 (But.of zb2)) hBw hBw,.inl ⟨hno,rfl⟩⟩
  | false=>
   by_cases hi:n≤i1
   ·have hin:¬ (i1:Int) < (n:Int):=by omega
    have e:loadT K S n bad0=(⟨i1,false⟩,l.map MR.m):=HE.out.symm.trans (msgsT_end (r:=⟨i1,false⟩) f (l.map MR.m) (.inr hi))
    have hso:loadR s=some (l.map MR.m):=by rw [HR.out,e];rfl
    obtain ⟨aO,cO,A,rfl,hPL⟩:=HO.out.pl HOk.out
    obtain ⟨z,hz⟩:∃ z,checkI (pmsOf (l.map MR.m) A) l.length=z:=⟨_,rfl⟩
    have CC:Hid (∀ wx:World,Below wr.heap.size wr wx→Calls Tryd.prog 18 #[.slice aO l.length cO] wx fun e w'=>e=.returned (.int .i64 z)∧Below wx.heap.size wx w'):=by rw [← hz];exact Lib.hid fun wx hx=>RCheck_any aO l.length cO (pmsOf (l.map MR.m) A) wx (hPL.below hx)
    have HPL:=Lib.hid hPL
    have hlm:(l.map MR.m).length=l.length:=List.length_map _
    clear hPL
    by_cases h0:z=0
    ·subst h0
     repeat any_goals (first|go_region|(go_at_call 18;with_reducible refine (CC.out _ zb2).mono ?_;rintro e w2 ⟨rfl,hx2⟩)|go_skip|go_guarded|go_step|go_upon|(dsimp only []))
     have hb2:Below wr.heap.size wr w2:=zb2
     exact bodyPost_ret (v:=.tuple #[.slice aO l.length cO,.int .i64 0]) (by simp [results,Tryd.results5,go_sem]) rfl ⟨But.bw HB.out (HRd.out.b.trans2 (But.of hb2)) hBw hBw,.inr ⟨l.map MR.m,aO,cO,A,hso,by rw [hlm];exact HPL.out.below hb2,.inl ⟨by rw [hlm];exact hz,by rw [hlm]⟩⟩⟩
    ·have h1:(z == 0)=false:=by simp [h0]
     repeat any_goals (first|go_region|(go_at_call 18;with_reducible refine (CC.out _ zb2).mono ?_;rintro e w2 ⟨rfl,hx2⟩)|go_skip|go_guarded|go_step|go_upon|(dsimp only []))
     have hb2:Below wr.heap.size wr w2:=zb2
     exact bodyPost_ret (v:=.tuple #[.slice none 0 0,.int .i64 z]) (by simp [results,Tryd.results5,go_sem]) rfl ⟨But.bw HB.out (HRd.out.b.trans2 (But.of hb2)) hBw hBw,.inr ⟨l.map MR.m,aO,cO,A,hso,by rw [hlm];exact HPL.out.below hb2,.inr ⟨by rw [hlm,hz];exact h0,by rw [hlm,hz]⟩⟩⟩
   ·have hin:(i1:Int) < (n:Int):=by omega
    have hf1:n - i1≤f:=HF.out
    cases f with
    | zero=>omega
    | succ f=>
    clear hf1
    go_upto_region 11 with go_region
    have R1:=Lib.hid (HRd.out.low (Below.refl wr.heap.size wr).drew)
    have O1:=Lib.hid (HO.out.but (But.of (Below.refl wr.heap.size wr).drew))
    generalize wr.drew=wd at *
    go_upto_region 12 with (go_at_call 13;with_reducible refine (CT.out 1 ⟨#[109,101,115,115,97,103,101]⟩ z0g _ _ R1.out).mono ?_;rintro e w2 ⟨rfl,hg,hk⟩;have R2:=Lib.hid hg;have KR2:=Lib.hid hk;clear hg hk;obtain ⟨_,_,_⟩:=R2.out.p.c)
    have O2:=Lib.hid (O1.out.but KR2.out)
    clear O1 R1 KR2
    obtain ⟨r2,hr2⟩:∃ x,Rd.take K S n ⟨i1,false⟩ 1 ⟨#[109,101,115,115,97,103,101]⟩=x:=⟨_,rfl⟩
    have R3:Hid (RdI W1 B a n c w2 r2):=by rw [← hr2];exact R2
    clear R2
    obtain ⟨nm,hnm⟩:∃ x,r2.text K S n 1=x:=⟨_,rfl⟩
    have CWm:Hid (∀ wx:World,RdI W1 B a n c wx r2→Calls Tryd.prog 14 #[.pointer (some ⟨B,0,none⟩),.int .i64 1] wx fun e w'=>e=.returned (.string nm)∧RdI W1 B a n c w' (r2.word K n 1)∧But B B wx w'):=by rw [← hnm];exact Lib.hid fun wx h=>CW.out 1 z0g r2 wx h
    go_upto_region 13 with (go_at_call 14;with_reducible refine (CWm.out _ R3.out).mono ?_;rintro e w3 ⟨rfl,hg,hk⟩;have R4:=Lib.hid hg;have K4:=Lib.hid hk;clear hg hk)
    have hlt3:B < w3.heap.size:=R4.out.p.lt
    have M5:=Lib.hid (msi_new (w:=w3) nm 55 hlt3)
    have R5:=Lib.hid (R4.out.low (below_alloc (Below.refl w3.heap.size w3) (.cells #[.string nm,.slice none 0 0,.slice none 0 0,.slice none 0 0] 55)))
    have B3:=Lib.hid R4.out.b
    have O3:=Lib.hid (O2.out.but K4.out)
    clear R4 K4 O2 R3 CWm
    generalize w3.alloc (.cells #[.string nm,.slice none 0 0,.slice none 0 0,.slice none 0 0] 55)=w5 at *
    repeat any_goals (first|(go_at_call 13;with_reducible refine (CT.out 4 ⟨#[123]⟩ z0g _ _ R5.out).mono ?_;rintro e w6 ⟨rfl,hg,hk⟩;have R6:=Lib.hid hg;have KR6:=Lib.hid hk;clear hg hk;obtain ⟨_,_,_⟩:=R6.out.p.c)|go_skip|go_guarded|go_step|go_upon|(dsimp only []))
    have M6:=Lib.hid (M5.out.but KR6.out)
    obtain ⟨r6,hr6⟩:∃ x,(r2.word K n 1).take K S n 4 ⟨#[123]⟩=x:=⟨_,rfl⟩
    have R7:Hid (RdI W1 B a n c w6 r6):=by rw [← hr6];exact R6
    have hmsg:msgT K S n ⟨i1,false⟩=bodyT K S n (n+1) r6 ⟨nm,[],[],[]⟩:=by rw [← hr6,← hnm,← hr2];rfl
    have HMsg:=Lib.hid hmsg
    clear hmsg hr6 hnm hr2 R6 M5 R5 KR6
    go_loopw [55] (fun _ wq=>∃ (f2:Nat) (r7:Rd) (m7:MB) (vF vN vS:Value),MsI w3 B wq m7 vF vN vS∧RdI W1 B a n c wq r7∧LenI n r7 m7∧bodyT K S n f2 r7 m7=msgT K S n ⟨i1,false⟩∧r7.left n≤f2) (fun _ wq=>leftW n wq B)
    case atStart=>exact ⟨n+1,r6,⟨nm,[],[],[]⟩,_,_,_,M6.out,R7.out,⟨R7.out.i,Nat.zero_le _,Nat.zero_le _,Nat.zero_le _⟩,HMsg.out.symm,by unfold Rd.left;split <;> omega⟩
    case round=>
     obtain ⟨f2,⟨i7,b7⟩,m7,vF,vN,vS,hM7,hR7,hL7,hE7,hf7⟩:=hrel
     have M7:=Lib.hid hM7
     have R8:=Lib.hid hR7
     have L7:=Lib.hid hL7
     have E7:=Lib.hid hE7
     have F7:=Lib.hid hf7
     obtain ⟨_,_,_⟩:=R8.out.p.c
     clear hM7 hR7 hL7 hE7 hf7
     cases b7 with
     | true=>
      have hx:msgT K S n ⟨i1,false⟩=(⟨i7,true⟩,m7):=E7.out.symm.trans (bodyT_bad f2 m7 rfl)
      go_upto_region 18 with fail
      have O8:=Lib.hid (O3.out.but M7.out.b)
      have hge:W1.heap.size≤w3.heap.size:=B3.out.size
      have X8:Hid (MR.At W1.heap.size wr ⟨m7,vF,vN,vS⟩):=Lib.hid ⟨own_low M7.out.oF z0b,own_low M7.out.oN z0b,own_low M7.out.oS z0b⟩
      obtain ⟨iM,hiM,hM0,hM1,hM2⟩:=info_parts infoPM
      have hA:=below_alloc (Below.refl wr.heap.size wr) (.cells #[.string m7.name,vF,vN,vS] 55)
      have hsz:W1.heap.size≤wr.heap.size:=R8.out.b.size
      have hln:l.length≤n:=by have h1:=HLen.out;have h2:=HRd.out.i;simp at h1 h2;omega
      obtain ⟨_,_,_,_⟩:=M7.out.c
      repeat any_goals (first|(at_builtin;refine wpList_append_own _ rfl (.tmp 73) (.tmp 75) 25 rfl W1.heap.size 55 iM (.agg #[.string ⟨#[]⟩,.slice none 0 0,.slice none 0 0,.slice none 0 0]) 4 88 Tryd.underlying25 hiM hM0 hM1 hM2 rfl z0g _ l.length (rowMR l) rfl (O8.out.o.alloc _) _ 1 1 (MR.cells ⟨m7,vF,vN,vS⟩) rfl rfl (news_four (by simp [go_sem])) X8.out.one (len_max z0b rfl) z0b (by simp;omega) ?_;intro v1 w9 own1 hg1 hj1)|go_skip|go_guarded|go_step|go_upon|(dsimp only []))
      have AP:=Lib.hid (ap1_of hA hg1 own1)
      have O9:=Lib.hid (O8.out.push ⟨m7,vF,vN,vS⟩ X8.out AP.out)
      have R9:Hid (RdI W1 B a n c w9 ⟨i7,true⟩):=Lib.hid ⟨O9.out.b,R8.out.p.same (AP.out.block B R8.out.p.lt (fun h=>by have:=(O8.out.o.lt _ h.symm).1;omega)),R8.out.i⟩
      have hgo:Rd.Go n ⟨i1,false⟩ ⟨i7,true⟩:=by have h:=msgT_go (K:=K) (S:=S) (n:=n) (r:=⟨i1,false⟩) (by show i1≤n;omega);rw [hx] at h;exact h
      have hok7:m7.Ok:=by have h:=msgT_ok HS.out HD.out (K:=K) (S:=S) (n:=n) ⟨i1,false⟩;rw [hx] at h;exact h
      go_roundw
      case rel=>
       refine ⟨f,⟨i7,true⟩,l ++ [⟨m7,vF,vN,vS⟩],O9.out,R9.out,?_,?_,?_,?_⟩
       ·exact z27zk1
       ·intro y hy;rcases List.mem_append.1 hy with hy|hy;exact HOk.out y hy;rw [List.mem_singleton] at hy;subst hy;exact hok7
       ·rw [List.map_append,← HE.out,msgsT_go f (l.map MR.m) (r:=⟨i1,false⟩) (by simp;omega),hx];rfl
       ·have h1:=hgo.left0 rfl (by show i1 < n;omega);have h2:=HF.out;omega
      case measure=>rw [leftW0_of R9.out.p,leftW0_of HRd.out.p];exact hgo.left0 rfl (by show i1 < n;omega)
     | false=>
      cases f2 with
      | zero=>exact absurd F7.out (by unfold Rd.left;simp)
      | succ f2=>
      obtain ⟨t,ht⟩:∃ x,Rd.is K S n ⟨i7,false⟩ 4 ⟨#[125]⟩=x:=⟨_,rfl⟩
      have CI7:Hid (∀ wx:World,RdI W1 B a n c wx ⟨i7,false⟩→Calls Tryd.prog 15 #[.pointer (some ⟨B,0,none⟩),.agg #[.int .i64 4,.string ⟨#[125]⟩]] wx fun e w'=>e=.returned (.bool t)∧RdI W1 B a n c w' (Rd.pass K S n ⟨i7,false⟩ 4 ⟨#[125]⟩)∧But B B wx w'):=by rw [← ht];exact Lib.hid fun wx h=>CI.out 4 ⟨#[125]⟩ z0g ⟨i7,false⟩ wx h
      cases t with
      | true=>
       have hx0:msgT K S n ⟨i1,false⟩=(Rd.pass K S n ⟨i7,false⟩ 4 ⟨#[125]⟩,m7):=E7.out.symm.trans (bodyT_end f2 m7 rfl ht)
       obtain ⟨r8,hr8⟩:∃ x,Rd.pass K S n ⟨i7,false⟩ 4 ⟨#[125]⟩=x:=⟨_,rfl⟩
       rw [hr8] at CI7 hx0
       have hx:=hx0
       clear hx0
       go_upto_region 18 with (go_at_call 15;with_reducible refine (CI7.out _ R8.out).mono ?_;rintro e w7 ⟨rfl,hg,hk⟩;have RZ:=Lib.hid hg;have M8:=Lib.hid (M7.out.but hk);clear hg hk)
       have O8:=Lib.hid (O3.out.but M8.out.b)
       have hge:W1.heap.size≤w3.heap.size:=B3.out.size
       have X8:Hid (MR.At W1.heap.size w7 ⟨m7,vF,vN,vS⟩):=Lib.hid ⟨own_low M8.out.oF z0b,own_low M8.out.oN z0b,own_low M8.out.oS z0b⟩
       obtain ⟨iM,hiM,hM0,hM1,hM2⟩:=info_parts infoPM
       have hA:=below_alloc (Below.refl w7.heap.size w7) (.cells #[.string m7.name,vF,vN,vS] 55)
       have hsz:W1.heap.size≤w7.heap.size:=RZ.out.b.size
       have hln:l.length≤n:=by have h1:=HLen.out;have h2:=HRd.out.i;simp at h1 h2;omega
       obtain ⟨_,_,_,_⟩:=M8.out.c
       repeat any_goals (first|(at_builtin;refine wpList_append_own _ rfl (.tmp 73) (.tmp 75) 25 rfl W1.heap.size 55 iM (.agg #[.string ⟨#[]⟩,.slice none 0 0,.slice none 0 0,.slice none 0 0]) 4 88 Tryd.underlying25 hiM hM0 hM1 hM2 rfl z0g _ l.length (rowMR l) rfl (O8.out.o.alloc _) _ 1 1 (MR.cells ⟨m7,vF,vN,vS⟩) rfl rfl (news_four (by simp [go_sem])) X8.out.one (len_max z0b rfl) z0b (by simp;omega) ?_;intro v1 w9 own1 hg1 hj1)|go_skip|go_guarded|go_step|go_upon|(dsimp only []))
       have AP:=Lib.hid (ap1_of hA hg1 own1)
       have O9:=Lib.hid (O8.out.push ⟨m7,vF,vN,vS⟩ X8.out AP.out)
       have R9:Hid (RdI W1 B a n c w9 r8):=Lib.hid ⟨O9.out.b,RZ.out.p.same (AP.out.block B RZ.out.p.lt (fun h=>by have:=(O8.out.o.lt _ h.symm).1;omega)),RZ.out.i⟩
       have hgo:Rd.Go n ⟨i1,false⟩ r8:=by have h:=msgT_go (K:=K) (S:=S) (n:=n) (r:=⟨i1,false⟩) (by show i1≤n;omega);rw [hx] at h;exact h
       have hok7:m7.Ok:=by have h:=msgT_ok HS.out HD.out (K:=K) (S:=S) (n:=n) ⟨i1,false⟩;rw [hx] at h;exact h
       go_roundw
       case rel=>
        refine ⟨f,r8,l ++ [⟨m7,vF,vN,vS⟩],O9.out,R9.out,?_,?_,?_,?_⟩
        ·exact z27zk1
        ·intro y hy;rcases List.mem_append.1 hy with hy|hy;exact HOk.out y hy;rw [List.mem_singleton] at hy;subst hy;exact hok7
        ·rw [List.map_append,← HE.out,msgsT_go f (l.map MR.m) (r:=⟨i1,false⟩) (by simp;omega),hx];rfl
        ·have h1:=hgo.left0 rfl (by show i1 < n;omega);have h2:=HF.out;omega
       case measure=>rw [leftW0_of R9.out.p,leftW0_of HRd.out.p];exact hgo.left0 rfl (by show i1 < n;omega)
      | false=>
       rw [pass_no ht] at CI7
       go_upto_region 15 with (go_at_call 15;with_reducible refine (CI7.out _ R8.out).mono ?_;rintro e w7 ⟨rfl,hg,hk⟩;have RZ:=Lib.hid hg;have M8:=Lib.hid (M7.out.but hk);clear hg hk)
       have hi7:i7≤n:=RZ.out.i
       obtain ⟨t2,ht2⟩:∃ x,Rd.is K S n ⟨i7,false⟩ 1 ⟨#[114,101,115,101,114,118,101,100]⟩=x:=⟨_,rfl⟩
       have CI8:Hid (∀ wx:World,RdI W1 B a n c wx ⟨i7,false⟩→Calls Tryd.prog 15 #[.pointer (some ⟨B,0,none⟩),.agg #[.int .i64 1,.string ⟨#[114,101,115,101,114,118,101,100]⟩]] wx fun e w'=>e=.returned (.bool t2)∧RdI W1 B a n c w' (Rd.pass K S n ⟨i7,false⟩ 1 ⟨#[114,101,115,101,114,118,101,100]⟩)∧But B B wx w'):=by rw [← ht2];exact Lib.hid fun wx h=>CI.out 1 ⟨#[114,101,115,101,114,118,101,100]⟩ z0g ⟨i7,false⟩ wx h
       cases t2 with
       | true=>
        repeat any_goals (first|(go_at_call 15;with_reducible refine (CI8.out _ RZ.out).mono ?_;rintro e w8 ⟨rfl,hg,hk⟩;have RY:=Lib.hid hg;have M9:=Lib.hid (M8.out.but hk);have LY:=Lib.hid (L7.out.pass (K:=K) (S:=S) 1 z0g ⟨#[114,101,115,101,114,118,101,100]⟩);clear hg hk)|(go_at_call 16;with_reducible refine (CR.out (Rd.pass K S n ⟨i7,false⟩ 1 ⟨#[114,101,115,101,114,118,101,100]⟩) m7 w3 _ vF vN vS B3.out RY.out M9.out rfl LY.out).mono ?_;rintro e w9 ⟨rfl,vN',vS',hg,hk,hl⟩)|go_skip|go_guarded|go_step|go_upon|(dsimp only []))
        have hgo:Rd.Go n ⟨i7,false⟩ (resT K S n (Rd.pass K S n ⟨i7,false⟩ 1 ⟨#[114,101,115,101,114,118,101,100]⟩) m7).1:=(pass_le (r:=⟨i7,false⟩) hi7 1 z0g ⟨#[114,101,115,101,114,118,101,100]⟩).go (resT_go m7 (rd_take_le (r:=⟨i7,false⟩) z0g hi7))
        go_roundw
        case rel=>exact ⟨f2,(resT K S n (Rd.pass K S n ⟨i7,false⟩ 1 ⟨#[114,101,115,101,114,118,101,100]⟩) m7).1,(resT K S n (Rd.pass K S n ⟨i7,false⟩ 1 ⟨#[114,101,115,101,114,118,101,100]⟩) m7).2,vF,vN',vS',hg,hk,hl,(bodyT_res f2 m7 rfl ht ht2).symm.trans E7.out,by have h1:=hgo.left rfl;have h2:=F7.out;omega⟩
        case measure=>rw [leftW_of hk.p,leftW_of R8.out.p];exact hgo.left rfl
       | false=>
        rw [pass_no ht2] at CI8
        repeat any_goals (first|(go_at_call 15;with_reducible refine (CI8.out _ RZ.out).mono ?_;rintro e w8 ⟨rfl,hg,hk⟩;have RY:=Lib.hid hg;have M9:=Lib.hid (M8.out.but hk);have LY:=L7;clear hg hk)|(go_at_call 17;with_reducible refine (CF.out ⟨i7,false⟩ m7 w3 _ vF vN vS B3.out RY.out M9.out rfl LY.out).mono ?_;rintro e w9 ⟨rfl,vF',hg,hk,hl⟩)|go_skip|go_guarded|go_step|go_upon|(dsimp only []))
        have hgo:Rd.Go n ⟨i7,false⟩ (fieldT K S n ⟨i7,false⟩ m7).1:=fieldT_go m7 hi7
        go_roundw
        case rel=>exact ⟨f2,(fieldT K S n ⟨i7,false⟩ m7).1,(fieldT K S n ⟨i7,false⟩ m7).2,vF',vN,vS,hg,hk,hl,(bodyT_fld f2 m7 rfl ht ht2).symm.trans E7.out,by have h1:=hgo.left rfl;have h2:=F7.out;omega⟩
        case measure=>rw [leftW_of hk.p,leftW_of R8.out.p];exact hgo.left rfl
end Go.Proofs.YtfondldmmcmloaaDoor
namespace Go.Proofs.YtfondldmmcmloaaDoor
open Go.RowKit
theorem PNorm_yes (M:Nat→PM) (a:Option Addr) (n c:Nat) (kind:Int) (neg:Bool) (V bits:Nat) (text:ByteArray) (aL:Option Addr) (nL cL:Nat) (kids:Nat→VT) (aK:Option Addr) (nK cK:Nat) (keys:Nat→ByteArray) (w:World) (hL:PL w a n c M) (hin:VT.In w (.mk kind neg V bits text aL nL cL kids aK nK cK keys)) (hv:validB M n (.mk kind neg V bits text aL nL cL kids aK nK cK keys)=true) (hN:PNrm M a n c (.mk kind neg V bits text aL nL cL kids aK nK cK keys))
  (C1:Hid (∀ wr:World,Below w.heap.size w wr→Calls Tryd.prog 9 #[.slice a n c,.agg #[.int .i64 kind,.bool neg,.int .u64 (lm V 0:Nat),.int .u64 (lm V 1:Nat),.int .u64 (lm V 2:Nat),.int .u64 (lm V 3:Nat),.int .u64 (bits:Nat),.string text,.slice aL nL cL,.slice aK nK cK]] wr fun e w'=>e=.returned (.bool true)∧Below wr.heap.size wr w')) :
  Calls Tryd.prog 10 #[.slice a n c,VT.agg (.mk kind neg V bits text aL nL cL kids aK nK cK keys)] w fun e w'=>∃ t:VT,e=.returned (.tuple #[t.agg,.bool true])∧NrT w w' (.mk kind neg V bits text aL nL cL kids aK nK cK keys) ((nrm2 M n (.mk kind neg V bits text aL nL cL kids aK nK cK keys)).msg (M 0)) t∧Below w.heap.size w w':=by
 have HL:=Lib.hid hL
 have HIN:=Lib.hid hin
 have hv2:=hv
 unfold validB at hv2
 rw [Bool.and_eq_true,Bool.and_eq_true,decide_eq_true_eq] at hv2
 obtain ⟨hck,hmy,hmsg⟩:=hv2
 have hpos:=check_pos hck
 obtain ⟨-,-,hlg,hrt⟩:=may_right hmy
 have C3:=Lib.hid fun wx (hx:Below w.heap.size w wx)=>hN 0 wx hpos (HL.out.below hx) (VT.In.below hx _ HIN.out) hrt hlg hmsg
 obtain ⟨b,off,ea,-,hm4,-⟩:=m_lit hL hpos (Below.refl _ _)
 rw [Nat.zero_mul,Nat.add_zero] at hm4
 have HM4:=Lib.hid hm4
 have q5:=hL.l
 have q6:=hL.lc
 subst ea
 obtain ⟨m,hm⟩:∃ m,M 0=m:=⟨_,rfl⟩
 rw [hm] at C3 HM4 ⊢
 unfold VT.agg VT.cells at C3 ⊢
 unfold PM.agg at C3
 simp only [maxLen] at q6
 have i1:(0:Int) < (n:Int):=by omega
 clear hL hin hv hN hck hmy hmsg hlg hrt hm4 hm
 go_enter Tryd.func10,Tryd.ntmps10
 go_upto_region 1 with fail
 have NW:=Lib.hid (nd_start w 35 kind neg V bits text aL nL cL aK nK cK)
 generalize (w.alloc (.cells #[.int .i64 kind,.bool neg,.int .u64 (lm V 0:Nat),.int .u64 (lm V 1:Nat),.int .u64 (lm V 2:Nat),.int .u64 (lm V 3:Nat),.int .u64 (bits:Nat),.string text,.slice aL nL cL,.slice aK nK cK] 35)).alloc (.cells #[.int .i64 0,.bool false,.int .u64 0,.int .u64 0,.int .u64 0,.int .u64 0,.int .u64 0,.string ⟨#[]⟩,.slice none 0 0,.slice none 0 0] 35)=W at *
 obtain ⟨Bv,hBv⟩:∃ B,B=w.heap.size:=⟨_,rfl⟩
 obtain ⟨Br,hBr⟩:∃ B,B=w.heap.size+1:=⟨_,rfl⟩
 rw [← hBr,← hBv] at NW ⊢
 clear hBr hBv
 obtain ⟨_,_,_,_,_,_,_,_,_,_⟩:=NW.out.v.all
 go_upto_region 3 with (go_at_call 9;with_reducible refine (C1.out _ NW.out.b).mono ?_;rintro e w1 ⟨rfl,hb1⟩)
 have V1:=Lib.hid (NW.out.v.below hb1)
 have R1:=Lib.hid (NW.out.r.below hb1)
 have hW1:=below_trans NW.out.b hb1
 have hm4:=HM4.out.below hW1
 obtain ⟨_,_,_,_⟩:=hm4.all
 obtain ⟨_,_,_,_,_,_,_,_,_,_⟩:=V1.out.all
 (refine still_tail 5 z0a z0a ?_;simp only [List.take_succ_cons,List.take_zero,List.drop_succ_cons,List.drop_zero];(repeat still_step);refine wpStill_nil ?_)
 repeat any_goals (first|(go_at_call 22;with_reducible refine (C3.out _ (below_trans hW1 zb2)).mono ?_;rintro e w2 ⟨tt,rfl,hNT,hb2⟩;obtain ⟨kindt,negt,Vt,bitst,textt,aLt,nLt,cLt,kidst,aKt,nKt,cKt,keyst,rfl⟩:=VT.In.lit hNT.i;simp only;have hd2:Below w1.heap.size w1 w2:=below_trans zb2 hb2;have R2:=Lib.hid (R1.out.below hd2);obtain ⟨_,_,_,_,_,_,_,_,_,_⟩:=R2.out.c.all;have hf1:=R2.out.f;have hl1:=R2.out.lt;have hr0:=NW.out.l;have hW2:=below_trans hW1 hd2;have hl2:Br < w1.heap.size:=R1.out.lt)|go_skip|go_guarded|go_step|go_upon|(dsimp only []))
 have hb:∀ b,b≠Br→(((((((((((w2.setCell ⟨Br,0,none⟩ (.int .i64 kindt)).setCell ⟨Br,1,none⟩ (.bool negt)).setCell ⟨Br,2,none⟩ (.int .u64 (lm Vt 0:Nat))).setCell ⟨Br,3,none⟩ (.int .u64 (lm Vt 1:Nat))).setCell ⟨Br,4,none⟩ (.int .u64 (lm Vt 2:Nat))).setCell ⟨Br,5,none⟩ (.int .u64 (lm Vt 3:Nat))).setCell ⟨Br,6,none⟩ (.int .u64 (bitst:Nat))).setCell ⟨Br,7,none⟩ (.string textt)).setCell ⟨Br,8,none⟩ (.slice aLt nLt cLt)).setCell ⟨Br,9,none⟩ (.slice aKt nKt cKt))).heap[b]? = w2.heap[b]? := fun b hb=>set10_block hb
 have hs10:w2.heap.size≤(((((((((((w2.setCell ⟨Br,0,none⟩ (.int .i64 kindt)).setCell ⟨Br,1,none⟩ (.bool negt)).setCell ⟨Br,2,none⟩ (.int .u64 (lm Vt 0:Nat))).setCell ⟨Br,3,none⟩ (.int .u64 (lm Vt 1:Nat))).setCell ⟨Br,4,none⟩ (.int .u64 (lm Vt 2:Nat))).setCell ⟨Br,5,none⟩ (.int .u64 (lm Vt 3:Nat))).setCell ⟨Br,6,none⟩ (.int .u64 (bitst:Nat))).setCell ⟨Br,7,none⟩ (.string textt)).setCell ⟨Br,8,none⟩ (.slice aLt nLt cLt)).setCell ⟨Br,9,none⟩ (.slice aKt nKt cKt))).heap.size:=by simp
 exact bodyPost_ret (v:=.tuple #[.agg #[.int .i64 kindt,.bool negt,.int .u64 (lm Vt 0:Nat),.int .u64 (lm Vt 1:Nat),.int .u64 (lm Vt 2:Nat),.int .u64 (lm Vt 3:Nat),.int .u64 (bitst:Nat),.string textt,.slice aLt nLt cLt,.slice aKt nKt cKt],.bool true]) (by simp [results,Tryd.results10,go_sem, *]) rfl ⟨(.mk kindt negt Vt bitst textt aLt nLt cLt kidst aKt nKt cKt keyst),rfl,⟨hNT.i.kept hs10 (fun b _ h=>hb b h) (hNT.q (fun b=>b≠Br) (HIN.out.blk.mono fun b (h:b < w.heap.size)=>by omega) (fun b (h:w1.heap.size≤b)=>by omega)),fun Q h0 h1=>hNT.q Q h0 (fun b (h:w1.heap.size≤b)=>h1 b (Nat.le_trans hW1.size h)),hNT.s⟩,zb2⟩
def zeroT:VT:=.mk 0 false 0 0 ⟨#[]⟩ none 0 0 default none 0 0 default
theorem zeroT_in (w:World):zeroT.In w:=⟨⟨by decide,by decide,by decide,by decide,Nat.zero_le _,Nat.le_refl _,Nat.zero_le _,Nat.le_refl _,Nat.zero_le _⟩,.inl rfl,fun i hi=>absurd hi (Nat.not_lt_zero _),.inl rfl⟩
def NormQ (w:World) (T F:VT) (p:Bool) (e:Ending) (w':World):Prop:=
 ∃ t:VT,e=.returned (.tuple #[t.agg,.bool p])∧t.In w'∧(p=true→NrT w w' T F t)∧(p=false→t=zeroT)∧Below w.heap.size w w'
theorem NormQ.sim {w w1:World} {T F t:VT} {p:Bool} (h1:p=true→NrT w w1 T F t) (h2:p=false→t=zeroT):Sim t (if p=true then F else zeroT):=by
 cases p with
 | true=>rw [if_pos rfl];exact (h1 rfl).s
 | false=>rw [if_neg Bool.false_ne_true,h2 rfl];exact Sim.self (zeroT_in w)
end Go.Proofs.YtfondldmmcmloaaDoor
