/- Tk6, Tk7, Ld0, Ld1, Ld2, Ld3, Ld4. -/
import Derived.Test.YtfondldmmcmloaaDoorPd22
set_option maxRecDepth 1000000
set_option maxHeartbeats 8000000
namespace Go.Proofs.YtfondldmmcmloaaDoor
open Go Go.RowKit
theorem z23zk1 {p:Prop} (h:p:=by
 repeat any_goals (first|(go_at_call 23;with_reducible refine (C5.out).mono ?_;rintro e w4 ⟨rfl,hw4⟩;rw [hw4])|(go_at_call 24;with_reducible refine (C7.out _ L7.out).mono ?_;rintro e w4 ⟨rfl,hw4⟩;rw [hw4])|go_skip|go_guarded|go_step|go_upon|(dsimp only []))
 exact hret _ _ rfl rfl rfl (TI.out.none hi HB2.out HRM.out HLC.out HDC.out HQ.out hsg) zb2):p:=h
theorem z23zk2 {p:Prop} (h:p:=by
 repeat any_goals (first|(go_at_call 23;with_reducible refine (C5.out).mono ?_;rintro e w4 ⟨rfl,hw4⟩;rw [hw4])|(go_at_call 24;with_reducible refine (C7.out _ L7.out).mono ?_;rintro e w4 ⟨rfl,hw4⟩;rw [hw4])|(at_builtin;refine wpList_append_own _ rfl (.tmp 24) (.tmp 30) 44 rfl w.heap.size 58 iT (.agg #[.int .i64 0,.string ⟨#[]⟩]) 2 24 Tryd.underlying44 hiT htT0 htT1 htT2 rfl z0g _ l.length (rowTk l) rfl ((OW.out.alloc _).alloc _) _ 1 1 [.int .i64 4,.string (s.extract i (i+1))] rfl rfl news_two1 one_tok (len_max z0b rfl) z0b z0l ?_;intro v1 w3 own1 hg1 _hi1;have hB1:Below w.heap.size w w3:=(below_alloc (below_alloc hW _) _).grown hg1 z0l (fun k h=>(OW.out.lt k h).1))|go_skip|go_guarded|go_step|go_upon|(dsimp only []))
 exact spX_of (i+1) f' (l ++ [(4,s.extract i (i+1))]) rfl rfl rfl h z0n hB1 z0b):p:=h
end Go.Proofs.YtfondldmmcmloaaDoor
namespace Go.Proofs.YtfondldmmcmloaaDoor
open Go Go.RowKit
def signA:List ByteArray:=[⟨#[61]⟩,⟨#[59]⟩,⟨#[123]⟩,⟨#[125]⟩,⟨#[60]⟩,⟨#[62]⟩,⟨#[44]⟩]
theorem ext_list {s:ByteArray} {i:Nat} (hi:i < s.size):∃ x:UInt8,(s.extract i (i+1)).toList=[x]∧x.toNat=byteN s i:=by
 have hz:(s.extract i (i+1)).size=1:=by rw [ext_size z0b];omega
 have hl:(s.extract i (i+1)).toList.length=1:=by rw [ByteArray.toList_eq];exact hz
 obtain ⟨x,hx⟩:=List.length_eq_one_iff.1 hl
 refine ⟨x,hx,?_⟩
 have h0:byteN (s.extract i (i+1)) 0=byteN s i:=ext_at z0b z0b
 rw [← h0,byteN_at _ 0 z0b]
 have e:=hx
 rw [ByteArray.toList_eq] at e
 have h1:(s.extract i (i+1)).data[0]'(by show 0 < (s.extract i (i+1)).size;omega)=x:=by
  rw [← Array.getElem_toList]
  simp only [e]
  rfl
 rw [← h1]
 rfl
theorem news_two1 {W:World} {o:Obj} {a b:Value} {t:TypeId}:∀ j u,[a,b][j]? = some u→((W.alloc o).alloc (.cells #[a,b] t)).cell? ((⟨W.heap.size+1,0,none⟩:Addr).add j)=some u:=by
 have h:=@news_two (W.alloc o) a b t
 rwa [show (W.alloc o).heap.size=W.heap.size+1 by simp] at h
theorem beq_one {k x:UInt8}:(([k]:List UInt8) == [x])=decide (x.toNat=k.toNat):=by
 rw [Bool.eq_iff_iff,beq_iff_eq,decide_eq_true_iff,UInt8.toNat_inj]
 simp
 exact ⟨fun h=>h.symm,fun h=>h.symm⟩
theorem sign_place {s:ByteArray} {i:Nat} (hi:i < s.size):decide (0≤placeS (fun j=>signA.getD j ⟨#[]⟩) 7 (s.extract i (i+1)))=signN (byteN s i):=by
 obtain ⟨x,hx,hn⟩:=ext_list hi
 unfold placeS
 rw [fstN_any]
 have he:∀ l:Array UInt8,(ByteArray.mk l).toList=l.toList:=fun l=>by rw [ByteArray.toList_eq]
 have hx2:=hx
 rw [ByteArray.toList_eq] at hx2
 simp only [anyN,eqS,signA,List.getD_cons_zero,List.getD_cons_succ,he,hx2,beq_one,hn]
 unfold signN
 simp only [Bool.false_or,Bool.or_assoc]
 rfl
theorem sp_sign (s:ByteArray) (F:Nat) (w wr:World) (u:Nat→Value) (i f:Nat) (l:List Tok) (hs:s.size≤8192) (TI:Hid (TkI s F i f l)) (OW:Hid (wr.ownsRow w.heap.size 58 2 (u 4) l.length (rowTk l))) (hW:Below w.heap.size w wr) (hi:i < s.size)
  (C:Nat) (HBC:Hid (byteN s i=C)) (hb:blankN C=false) (hr:remN s i=false) (hc:letterN C=false) (hd:digitN C=false) (hq:¬ C=34) (Q0:Exit→Act→World→Prop) (hret:∀ (A:Array Value) (wq:World),A.size=194→A.getD 2 undef=.slice none 0 0→A.getD 3 undef=.bool false→tokN s F 0=none→Below w.heap.size w wq→Q0 .ret ⟨A,[]⟩ wq) :
  Code.wp Tryd.prog spBody (Exit.then (SpX s F w (s.size - i)) Q0) ⟨#[.string s,u 1,u 2,u 3,u 4,.int .i64 (i:Nat),u 6,u 7,u 8,u 9,u 10,u 11,u 12,u 13,u 14,u 15,u 16,u 17,u 18,u 19,u 20,u 21,u 22,u 23,u 24,u 25,u 26,u 27,u 28,u 29,u 30,u 31,u 32,u 33,u 34,u 35,u 36,u 37,u 38,u 39,u 40,u 41,u 42,u 43,u 44,u 45,u 46,u 47,u 48,u 49,u 50,u 51,u 52,u 53,u 54,u 55,u 56,u 57,u 58,u 59,u 60,u 61,u 62,u 63,u 64,u 65,u 66,u 67,u 68,u 69,u 70,u 71,u 72,u 73,u 74,u 75,u 76,u 77,u 78,u 79,u 80,u 81,u 82,u 83,u 84,u 85,u 86,u 87,u 88,u 89,u 90,u 91,u 92,u 93,u 94,u 95,u 96,u 97,u 98,u 99,u 100,u 101,u 102,u 103,u 104,u 105,u 106,u 107,u 108,u 109,u 110,u 111,u 112,u 113,u 114,u 115,u 116,u 117,u 118,u 119,u 120,u 121,u 122,u 123,u 124,u 125,u 126,u 127,u 128,u 129,u 130,u 131,u 132,u 133,u 134,u 135,u 136,u 137,u 138,u 139,u 140,u 141,u 142,u 143,u 144,u 145,u 146,u 147,u 148,u 149,u 150,u 151,u 152,u 153,u 154,u 155,u 156,u 157,u 158,u 159,u 160,u 161,u 162,u 163,u 164,u 165,u 166,u 167,u 168,u 169,u 170,u 171,u 172,u 173,u 174,u 175,u 176,u 177,u 178,u 179,u 180,u 181,u 182,u 183,u 184,u 185,u 186,u 187,u 188,u 189,u 190,u 191,u 192,u 193],[]⟩ wr:=by
 conv=>arg 2;whnf
 have i1:(i:Int) < (s.size:Int):=by omega
 have i2:(0:Int)≤(i:Int):=by omega
 have i5:(i:Int).toNat=i:=rfl
 have hC:((s[i]'hi).toNat:Int)=(C:Int):=by rw [← byteN_at s i hi,HBC.out]
 have hle:=TI.out.le
 have hln:=TI.out.ln
 have hb0:C≠32∧C≠9∧C≠10∧C≠13:=by simpa [blankN] using hb
 have e0:((C:Int) == 32)=false:=beq_false_of_ne z0b
 have e1:((C:Int) == 9)=false:=beq_false_of_ne z0b
 have e2:((C:Int) == 10)=false:=beq_false_of_ne z0b
 have e3:((C:Int) == 13)=false:=beq_false_of_ne z0b
 have HB2:=Lib.hid (show blankN (byteN s i)=false from by rw [HBC.out];exact hb)
 have hC2:C < 256:=by have:=byteN_lt s i;rw [HBC.out] at this;exact this
 clear hb
 obtain ⟨iT,hiT,htT0,htT1,htT2⟩:=info_parts infoTok
 have HRM:=Lib.hid hr
 have HLC:=Lib.hid (show letterN (byteN s i)=false from by rw [HBC.out];exact hc)
 have HDC:=Lib.hid (show digitN (byteN s i)=false from by rw [HBC.out];exact hd)
 have HQ:=Lib.hid (show ¬ byteN s i=34 from by rw [HBC.out];exact hq)
 have e6:((C:Int) == 34)=false:=beq_false_of_ne z0b
 have C5:=Lib.hid (RName_any (s.extract i (i+1)) (ext_max hs z0b) wr)
 rw [named_one hi,HBC.out,hc] at C5
 obtain ⟨z,hz⟩:∃ z,z=placeS (fun j=>signA.getD j ⟨#[]⟩) 7 (s.extract i (i+1)):=⟨_,rfl⟩
 have HZ:=Lib.hid (show decide (0≤z)=signN (byteN s i) by rw [hz];exact sign_place hi)
 have C7:=Lib.hid fun wx (hx:SIn wx (some ⟨wr.heap.size,0,none⟩) 7 7 (fun j=>signA.getD j ⟨#[]⟩))=>(by
  have h:=RPlaceS_any (some ⟨wr.heap.size,0,none⟩) 7 7 _ (s.extract i (i+1)) wx hx
  rwa [← hz] at h:Calls Tryd.prog 24 #[.slice (some ⟨wr.heap.size,0,none⟩) 7 7,.string (s.extract i (i+1))] wx fun e w'=>e=.returned (.int .i64 z)∧w'=wx)
 have L7:=Lib.hid (sin_lit wr signA 9 z0g z0g)
 have hd2:C < 48∨57 < C:=by
  rcases Nat.lt_or_ge C 48 with h|h
  ·exact .inl h
  ·rcases Nat.lt_or_ge 57 C with h2|h2
   ·exact .inr h2
   ·rw [show digitN C=true from by simp [digitN,h,h2]] at hd
    cases hd
 have hr2:C=47→i+1 < s.size→¬ byteN s (i+1)=47:=fun h1 h2 h3=>by
  rw [show remN s i=true from by unfold remN;rw [HBC.out,h1,h3];simp [h2]] at hr
  cases hr
 clear hr hc hd hz
 by_cases c47:C=47
 ·have e4:((C:Int) == 47)=true:=by simp [c47]
  have e5:¬ (48:Int)≤(C:Int):=by omega
  have hsg:signN (byteN s i)=false:=by rw [HBC.out,c47];decide
  have hz0:z < 0:=by
   have h:=HZ.out
   rw [hsg] at h
   have:=of_decide_eq_false h
   omega
  by_cases c5:i+1 < s.size
  ·have j1:(i:Int)+1 < (s.size:Int):=by omega
   have j2:(0:Int)≤(i:Int)+1:=by omega
   have j5:((i:Int)+1).toNat=i+1:=by omega
   have hn47:=hr2 c47 c5
   rw [byteN_at s (i+1) c5] at hn47
   have e7:(((s[i+1]'c5).toNat:Int) == 47)=false:=beq_false_of_ne z0b
   exact z23zk1
  ·have j1:¬ (i:Int)+1 < (s.size:Int):=by omega
   exact z23zk1
 ·have e4:((C:Int) == 47)=false:=beq_false_of_ne z0b
  cases hsg:signN (byteN s i) with
  | false=>
   have hz0:z < 0:=by
    have h:=HZ.out
    rw [hsg] at h
    have:=of_decide_eq_false h
    omega
   rcases hd2 with hd3|hd3
   ·have e5:¬ (48:Int)≤(C:Int):=by omega
    exact z23zk1
   ·have e5:(48:Int)≤(C:Int):=by omega
    have e8:¬ (C:Int)≤57:=by omega
    exact z23zk1
  | true=>
   have hz0:¬ z < 0:=by
    have h:=HZ.out
    rw [hsg] at h
    have:=of_decide_eq_true h
    omega
   obtain ⟨f',h⟩:=TI.out.sign hi HB2.out HRM.out HLC.out HDC.out HQ.out hsg
   rcases hd2 with hd3|hd3
   ·have e5:¬ (48:Int)≤(C:Int):=by omega
    exact z23zk2
   ·have e5:(48:Int)≤(C:Int):=by omega
    have e8:¬ (C:Int)≤57:=by omega
    exact z23zk2
theorem spI_of {s:ByteArray} {F:Nat} {w wq:World} {A:Array Value} (i f:Nat) (l:List Tok) (h:A.size=194) (h0:A.getD 0 undef=.string s) (h5:A.getD 5 undef=.int .i64 (i:Nat)) (TI:TkI s F i f l)
  (ho:wq.ownsRow w.heap.size 58 2 (A.getD 4 undef) l.length (rowTk l)) (hW:Below w.heap.size w wq):SpI s F w ⟨A,[]⟩ wq:=(spX_of (n:=s.size - i+1) i f l h h0 h5 TI ho hW (Nat.lt_succ_self _)).1
theorem spM_eq {s:ByteArray} {u:Nat→Value} {i:Nat} {wq:World}:SpM s ⟨spF s u (.int .i64 (i:Nat)),[]⟩ wq=s.size - i:=by
 show s.size - (intOf (.int .i64 (i:Nat))).toNat=_
 simp [intOf]
theorem sp_out (s:ByteArray) (F:Nat) (w wr:World) (u:Nat→Value) (i f:Nat) (l:List Tok) (TI:Hid (TkI s F i f l)) (OW:Hid (wr.ownsRow w.heap.size 58 2 (u 4) l.length (rowTk l))) (hW:Below w.heap.size w wr) (hi:i=s.size) (Q0:Exit→Act→World→Prop) (K:Act→World→Prop)
  (hexit:∀ (A:Array Value) (wq:World) (l:List Tok),A.size=194→tokN s F 0=some l→l.length≤s.size→wq.ownsRow w.heap.size 58 2 (A.getD 4 undef) l.length (rowTk l)→Below w.heap.size w wq→Q0 (.exit 0) ⟨A,[]⟩ wq) :
  Code.wp Tryd.prog spBody (Exit.then K Q0) ⟨spF s u (.int .i64 (i:Nat)),[]⟩ wr:=by
 unfold spF
 conv=>arg 2;whnf
 have i1:¬ (i:Int) < (s.size:Int):=by omega
 have HX:=Lib.hid hexit
 have hln:=TI.out.ln
 clear hexit
 repeat any_goals (first|go_skip|go_guarded|go_step|go_upon|(simp only [];done))
 exact HX.out _ _ l rfl (TI.out.out hi) z0b OW.out hW
theorem sp_round (s:ByteArray) (F:Nat) (w:World) (hs:s.size≤8192) (Q0:Exit→Act→World→Prop)
  (hret:∀ (A:Array Value) (wq:World),A.size=194→A.getD 2 undef=.slice none 0 0→A.getD 3 undef=.bool false→tokN s F 0=none→Below w.heap.size w wq→Q0 .ret ⟨A,[]⟩ wq)
  (hexit:∀ (A:Array Value) (wq:World) (l:List Tok),A.size=194→tokN s F 0=some l→l.length≤s.size→wq.ownsRow w.heap.size 58 2 (A.getD 4 undef) l.length (rowTk l)→Below w.heap.size w wq→Q0 (.exit 0) ⟨A,[]⟩ wq)
  (a:Act) (wr:World) (hI:SpI s F w a wr):Code.wp Tryd.prog spBody (Exit.then (fun a' w'=>SpI s F w a' w'∧SpM s a' w' < SpM s a wr) Q0) a wr:=by
 obtain ⟨u,i,f,l,rfl,hT,ho,hW⟩:=hI
 have TI:=Lib.hid hT
 have OW:=Lib.hid ho
 rw [spM_eq]
 by_cases hi:i < s.size
 ·obtain ⟨C,hC⟩:∃ C,byteN s i=C:=⟨_,rfl⟩
  have HBC:=Lib.hid hC
  show Code.wp Tryd.prog spBody (Exit.then (SpX s F w (s.size - i)) Q0) _ wr
  cases hb:blankN C with
  | true=>exact sp_blank s F w wr u i f l hs TI OW hW hi C HBC hb Q0
  | false=>
   cases hr:remN s i with
   | true=>exact sp_rem s F w wr u i f l hs TI OW hW hi C HBC hb hr Q0
   | false=>
    cases hc:letterN C with
    | true=>exact sp_word s F w wr u i f l hs TI OW hW hi C HBC hb hr hc Q0
    | false=>
     cases hd:digitN C with
     | true=>exact sp_dig s F w wr u i f l hs TI OW hW hi C HBC hb hr hc hd Q0 hret
     | false=>
      by_cases hq:C=34
      ·exact sp_quo s F w wr u i f l hs TI OW hW hi C HBC hb hq Q0 hret
      ·exact sp_sign s F w wr u i f l hs TI OW hW hi C HBC hb hr hc hd hq Q0 hret
 ·exact sp_out s F w wr u i f l TI OW hW (by have:=hT.le;omega) Q0 _ hexit
theorem sp_loop (s:ByteArray) (F:Nat) (w wq:World) (hs:s.size≤8192) (Q0:Exit→Act→World→Prop) (A:Array Value) (hI:SpI s F w ⟨A,[]⟩ wq)
  (hret:∀ (A:Array Value) (wq:World),A.size=194→A.getD 2 undef=.slice none 0 0→A.getD 3 undef=.bool false→tokN s F 0=none→Below w.heap.size w wq→Q0 .ret ⟨A,[]⟩ wq)
  (hexit:∀ (A:Array Value) (wq:World) (l:List Tok),A.size=194→tokN s F 0=some l→l.length≤s.size→wq.ownsRow w.heap.size 58 2 (A.getD 4 undef) l.length (rowTk l)→Below w.heap.size w wq→Q0 (.exit 0) ⟨A,[]⟩ wq) :
  Code.wp Tryd.prog (.loop spBody) Q0 ⟨A,[]⟩ wq:=wp_loop (SpI s F w) (SpM s) hI (sp_round s F w hs Q0 hret hexit)
theorem arr_u {A:Array Value} (h:A.size=194):∃ u:Nat→Value,A=#[u 0,u 1,u 2,u 3,u 4,u 5,u 6,u 7,u 8,u 9,u 10,u 11,u 12,u 13,u 14,u 15,u 16,u 17,u 18,u 19,u 20,u 21,u 22,u 23,u 24,u 25,u 26,u 27,u 28,u 29,u 30,u 31,u 32,u 33,u 34,u 35,u 36,u 37,u 38,u 39,u 40,u 41,u 42,u 43,u 44,u 45,u 46,u 47,u 48,u 49,u 50,u 51,u 52,u 53,u 54,u 55,u 56,u 57,u 58,u 59,u 60,u 61,u 62,u 63,u 64,u 65,u 66,u 67,u 68,u 69,u 70,u 71,u 72,u 73,u 74,u 75,u 76,u 77,u 78,u 79,u 80,u 81,u 82,u 83,u 84,u 85,u 86,u 87,u 88,u 89,u 90,u 91,u 92,u 93,u 94,u 95,u 96,u 97,u 98,u 99,u 100,u 101,u 102,u 103,u 104,u 105,u 106,u 107,u 108,u 109,u 110,u 111,u 112,u 113,u 114,u 115,u 116,u 117,u 118,u 119,u 120,u 121,u 122,u 123,u 124,u 125,u 126,u 127,u 128,u 129,u 130,u 131,u 132,u 133,u 134,u 135,u 136,u 137,u 138,u 139,u 140,u 141,u 142,u 143,u 144,u 145,u 146,u 147,u 148,u 149,u 150,u 151,u 152,u 153,u 154,u 155,u 156,u 157,u 158,u 159,u 160,u 161,u 162,u 163,u 164,u 165,u 166,u 167,u 168,u 169,u 170,u 171,u 172,u 173,u 174,u 175,u 176,u 177,u 178,u 179,u 180,u 181,u 182,u 183,u 184,u 185,u 186,u 187,u 188,u 189,u 190,u 191,u 192,u 193]:=⟨fun k=>A.getD k undef,arr_lit h⟩
/-- **split** of the document -/
theorem Split_any (s:ByteArray) (hs:s.size≤8192) (w:World) :
  Calls Tryd.prog 12 #[.string s] w fun e w'=>(tokN s (s.size+1) 0=none∧e=.returned (.tuple #[.slice none 0 0,.bool false])∧Below w.heap.size w w') ∨
   (∃ (l:List Tok) (v:Value),tokN s (s.size+1) 0=some l∧l.length≤s.size∧e=.returned (.tuple #[v,.bool true])∧w'.ownsRow w.heap.size 58 2 v l.length (rowTk l)∧Below w.heap.size w w'):=by
 obtain ⟨F,hF⟩:∃ F,s.size+1=F:=⟨_,rfl⟩
 have H0:=Lib.hid (TkI.start s)
 rw [hF] at H0 ⊢
 clear hF
 go_enter Tryd.func12,Tryd.ntmps12
 repeat any_goals (first|(refine sp_loop s F w _ hs _ _ ?_ ?_ ?_)|go_skip|go_guarded|go_step|go_upon|(dsimp only []))
 ·exact spI_of 0 _ [] rfl rfl rfl H0.out (World.ownsRow_nil _ _ _ _) (Below.refl _ _)
 ·intro A wq hA h2 h3 hN hB
  obtain ⟨u,rfl⟩:=arr_u hA
  have h2:u 2=.slice none 0 0:=h2
  have h3:u 3=.bool false:=h3
  clear hA
  repeat any_goals (first|go_skip|go_guarded|go_step|go_upon|(simp only [];done))
  exact bodyPost_ret (v:=.tuple #[.slice none 0 0,.bool false]) (by simp [results,Tryd.results12,go_sem,h2,h3]) rfl (.inl ⟨hN,rfl,hB⟩)
 ·intro A wq l hA hN hl ho hB
  obtain ⟨u,rfl⟩:=arr_u hA
  have ho:wq.ownsRow w.heap.size 58 2 (u 4) l.length (rowTk l):=ho
  clear hA
  repeat any_goals (first|go_skip|go_guarded|go_step|go_upon|(simp only [];done))
  exact bodyPost_ret (v:=.tuple #[u 4,.bool true]) (by simp [results,Tryd.results12,go_sem]) rfl (.inr ⟨l,u 4,hN,hl,rfl,ho,hB⟩)
structure MB where
 name:ByteArray
 F:List PF
 N:List Nat
 S:List ByteArray
structure Rd where
 i:Nat
 bad:Bool
section
variable (K:Nat→Int) (S:Nat→ByteArray) (n:Nat)
def Rd.is (r:Rd) (k:Int) (s:ByteArray):Bool:=isB K S n r.i r.bad k s
def Rd.pass (r:Rd) (k:Int) (s:ByteArray):Rd:=⟨takeI K S n r.i r.bad k s,r.bad⟩
def Rd.take (r:Rd) (k:Int) (s:ByteArray):Rd:=⟨takeI K S n r.i r.bad k s,!isB K S n r.i r.bad k s⟩
def Rd.text (r:Rd) (k:Int):ByteArray:=if wordB K n r.i r.bad k=true then tokS S n r.i else ⟨#[]⟩
def Rd.word (r:Rd) (k:Int):Rd:=⟨if wordB K n r.i r.bad k=true then r.i+1 else r.i,!wordB K n r.i r.bad k⟩
def Rd.num (r:Rd):Nat:=valN (r.text K S n 2) (r.text K S n 2).size
def resL (q:Bool):Nat→Rd→MB→Rd × MB
 | 0,r,m=>(r,m)
 | f+1,r,m=>
  if r.bad=true then (r,m)
  else
   let m':MB:=if q=true then { m with S:=m.S ++ [r.text K S n 3] } else { m with N:=m.N ++ [r.num K S n] }
   let r':=r.word K n (if q=true then 3 else 2)
   if r'.is K S n 4 ⟨#[44]⟩=true then resL q f (r'.pass K S n 4 ⟨#[44]⟩) m' else (r',m')
def resT (r:Rd) (m:MB):Rd × MB:=
 let x:=resL K S n (tokK K n r.i == 3) (n+1) r m
 (x.1.take K S n 4 ⟨#[59]⟩,x.2)
def headT (r:Rd):Rd × PF:=
 if eqT (tokK K n r.i) (tokS S n r.i) 1 ⟨#[109,97,112]⟩=true∧eqT (tokK K n (r.i+1)) (tokS S n (r.i+1)) 4 ⟨#[60]⟩=true then
  let r1:=Rd.take K S n ⟨r.i+2,r.bad⟩ 1 ⟨#[115,116,114,105,110,103]⟩
  let r2:=r1.take K S n 4 ⟨#[44]⟩
  ((r2.word K n 1).take K S n 4 ⟨#[62]⟩,{ name:=⟨#[]⟩,type:=r2.text K S n 1,number:=0,opt:=false,rep:=false,map:=true })
 else
  let o:=r.is K S n 1 ⟨#[111,112,116,105,111,110,97,108]⟩
  let r1:=r.pass K S n 1 ⟨#[111,112,116,105,111,110,97,108]⟩
  let p:=!o && r1.is K S n 1 ⟨#[114,101,112,101,97,116,101,100]⟩
  let r2:=if o=true then r1 else r1.pass K S n 1 ⟨#[114,101,112,101,97,116,101,100]⟩
  (r2.word K n 1,{ name:=⟨#[]⟩,type:=r2.text K S n 1,number:=0,opt:=o,rep:=p,map:=false })
def fieldT (r:Rd) (m:MB):Rd × MB:=
 let x:=headT K S n r
 let r1:=(x.1.word K n 1).take K S n 4 ⟨#[61]⟩
 ((r1.word K n 2).take K S n 4 ⟨#[59]⟩,{ m with F:=m.F ++ [{ x.2 with name:=x.1.text K S n 1,number:=(r1.num K S n:Nat) }] })
def bodyT:Nat→Rd→MB→Rd × MB
 | 0,r,m=>(r,m)
 | f+1,r,m=>
  if r.bad=true then (r,m)
  else if r.is K S n 4 ⟨#[125]⟩=true then (r.pass K S n 4 ⟨#[125]⟩,m)
  else if r.is K S n 1 ⟨#[114,101,115,101,114,118,101,100]⟩=true then
   let x:=resT K S n (r.pass K S n 1 ⟨#[114,101,115,101,114,118,101,100]⟩) m
   bodyT f x.1 x.2
  else
   let x:=fieldT K S n r m
   bodyT f x.1 x.2
def msgT (r:Rd):Rd × MB:=
 let r1:=r.take K S n 1 ⟨#[109,101,115,115,97,103,101]⟩
 bodyT K S n (n+1) ((r1.word K n 1).take K S n 4 ⟨#[123]⟩) ⟨r1.text K S n 1,[],[],[]⟩
def msgsT:Nat→Rd→List MB→Rd × List MB
 | 0,r,l=>(r,l)
 | f+1,r,l=>
  if r.bad=true∨n≤r.i then (r,l)
  else
   let x:=msgT K S n r
   msgsT f x.1 (l ++ [x.2])
def loadT (bad:Bool):Rd × List MB:=
 msgsT K S n (n+1) ((((Rd.take K S n ⟨0,bad⟩ 1 ⟨#[115,121,110,116,97,120]⟩).take K S n 4 ⟨#[61]⟩).take K S n 3 ⟨#[112,114,111,116,111,51]⟩).take K S n 4 ⟨#[59]⟩) []
end
def tkK (l:List Tok) (i:Nat):Int:=(l.getD i (0,⟨#[]⟩)).1
def tkS (l:List Tok) (i:Nat):ByteArray:=(l.getD i (0,⟨#[]⟩)).2
def DigT (K:Nat→Int) (S:Nat→ByteArray) (n:Nat):Prop:=∀ i,i < n→K i=2→(S i).size≤9∧∀ j,j < (S i).size→48≤byteN (S i) j∧byteN (S i) j≤57
theorem rd_digits {K:Nat→Int} {S:Nat→ByteArray} {n:Nat} (h:DigT K S n) (r:Rd):(r.text K S n 2).size≤9∧∀ j,j < (r.text K S n 2).size→48≤byteN (r.text K S n 2) j∧byteN (r.text K S n 2) j≤57:=by
 unfold Rd.text
 split
 ·next hw=>
  unfold wordB at hw
  rw [Bool.and_eq_true] at hw
  have hk:=eq_of_beq hw.2
  unfold tokK at hk
  unfold tokS
  split at hk
  ·next hi=>rw [if_pos hi];exact h _ hi hk
  ·simp at hk
 ·exact ⟨by decide,fun j hj=>absurd hj (Nat.not_lt_zero _)⟩
theorem rd_word_le {K:Nat→Int} {n:Nat} {r:Rd} {k:Int} (hk:k≠0) (h:r.i≤n):(r.word K n k).i≤n:=by
 show (if wordB K n r.i r.bad k=true then r.i+1 else r.i)≤n
 split
 ·next hw=>
  unfold wordB at hw
  rw [Bool.and_eq_true] at hw
  have e:=eq_of_beq hw.2
  unfold tokK at e
  split at e
  ·omega
  ·exact absurd e.symm hk
 ·exact h
theorem is_lt {K:Nat→Int} {S:Nat→ByteArray} {n i:Nat} {bad:Bool} {k:Int} {s:ByteArray} (hk:k≠0) (h:isB K S n i bad k s=true):i < n:=by
 unfold isB eqT at h
 rw [Bool.and_eq_true,Bool.and_eq_true] at h
 have e:=eq_of_beq h.2.1
 unfold tokK at e
 split at e
 ·assumption
 ·exact absurd e.symm hk
theorem rd_take_le {K:Nat→Int} {S:Nat→ByteArray} {n:Nat} {r:Rd} {k:Int} {s:ByteArray} (hk:k≠0) (h:r.i≤n):takeI K S n r.i r.bad k s≤n:=by
 unfold takeI
 split
 ·next hi=>exact is_lt hk hi
 ·exact h
def rowPF (l:List PF):List Value:=l.flatMap PF.cells
def rowPN (l:List Nat):List Value:=l.map fun (x:Nat)=>Value.int .i64 x
def rowPS (l:List ByteArray):List Value:=l.map Value.string
theorem rowPF_snoc (l:List PF) (f:PF):rowPF (l ++ [f])=rowPF l ++ f.cells:=by simp [rowPF]
theorem rowPN_snoc (l:List Nat) (x:Nat):rowPN (l ++ [x])=rowPN l ++ [.int .i64 (x:Nat)]:=by simp [rowPN]
theorem rowPS_snoc (l:List ByteArray) (x:ByteArray):rowPS (l ++ [x])=rowPS l ++ [.string x]:=by simp [rowPS]
structure MsI (w0:World) (B:Nat) (w:World) (m:MB) (vF vN vS:Value):Prop where
 b:But B B w0 w
 lt:B < w0.heap.size
 c:w.cell? ⟨w0.heap.size,0,none⟩=some (.string m.name)∧w.cell? ⟨w0.heap.size,1,none⟩=some vF∧w.cell? ⟨w0.heap.size,2,none⟩=some vN∧w.cell? ⟨w0.heap.size,3,none⟩=some vS
 f:∀ j,w.frozen? ⟨w0.heap.size,j,none⟩=false
 oF:w.ownsRow (w0.heap.size+1) 70 6 vF m.F.length (rowPF m.F)
 oN:w.ownsRow (w0.heap.size+1) 3 1 vN m.N.length (rowPN m.N)
 oS:w.ownsRow (w0.heap.size+1) 9 1 vS m.S.length (rowPS m.S)
section
variable {w0 w w1:World} {B:Nat} {m:MB} {vF vN vS:Value}
theorem MsI.bl (h:MsI w0 B w m vF vN vS):w0.heap.size < w.heap.size:=World.block_lt_of_cell? w ⟨w0.heap.size,0,none⟩ h.c.1
theorem row_but {e:TypeId} {s b f n base:Nat} {v:Value} {xs:List Value} (h:w.ownsRow base e s v n xs) (k:But b f w w1) (hb:b < base) (hf:f < base):w1.ownsRow base e s v n xs:=by
 refine ⟨h.1,?_⟩
 rcases h.2 with hn|⟨g,cap,cur,rfl,h1,hg,rest⟩
 ·exact .inl hn
 ·exact .inr ⟨g,cap,cur,rfl,h1,by rw [k.block g (Array.getElem?_eq_some_iff.1 hg).1 z0b z0b];exact hg,rest⟩
theorem MsI.but (h:MsI w0 B w m vF vN vS) (k:But B B w w1):MsI w0 B w1 m vF vN vS:=by
 have hl:=h.lt
 have hb:=h.bl
 obtain ⟨h0,h1,h2,h3⟩:=h.c
 have hne:(⟨w0.heap.size,0,none⟩:Addr).block≠B:=by show w0.heap.size≠B;omega
 exact ⟨h.b.trans2 k,hl,⟨k.cell hne hne h0,k.cell hne hne h1,k.cell hne hne h2,k.cell hne hne h3⟩,fun j=>by rw [k.frozen (p:=⟨w0.heap.size,j,none⟩) hb hne hne];exact h.f j,row_but h.oF k z0b z0b,row_but h.oN k z0b z0b,row_but h.oS k z0b z0b⟩
end
section
variable {w0 w w1:World} {B:Nat} {m:MB} {vF vN vS:Value}
structure Ap1 (w wA:World) (base:Nat) (e:TypeId) (s:Nat) (v v1:Value) (n:Nat) (xs:List Value):Prop where
 o:wA.ownsRow base e s v1 n xs
 os:wA.os=w.os
 tape:wA.tape=w.tape
 output:wA.output=w.output
 size:w.heap.size≤wA.heap.size
 block:∀ b,b < w.heap.size→some b≠v.ownBlock→wA.heap[b]? = w.heap[b]?
theorem ap1_of {wx wA:World} {base:Nat} {e:TypeId} {s n:Nat} {v v1:Value} {xs:List Value} (hb:Below w.heap.size w wx) (g:wx.grownBy wA v.ownBlock) (o:wA.ownsRow base e s v1 n xs):Ap1 w wA base e s v v1 n xs:=
 ⟨o,g.os.trans hb.os,g.tape.trans hb.tape,g.output.trans hb.output,Nat.le_trans hb.size g.size,fun b h1 h2=>(g.block b (Nat.lt_of_lt_of_le h1 hb.size) h2).trans (hb.block b h1)⟩
theorem Ap1.row {wA:World} {base base':Nat} {e e':TypeId} {s s' n n':Nat} {v v1 v':Value} {xs xs' xo:List Value} {no:Nat} (h:Ap1 w wA base e s v v1 n xs) (hv:w.ownsRow base e s v no xo) (k:w.ownsRow base' e' s' v' n' xs') (hne:e'≠e):wA.ownsRow base' e' s' v' n' xs':=by
 rcases rows_ne k hv hne with hn|hn
 ·rcases k.2 with hk|⟨g,cap,cur,rfl,h1,hg,rest⟩
  ·exact ⟨k.1,.inl hk⟩
  ·cases hn
 ·refine ⟨k.1,?_⟩
  rcases k.2 with hk|⟨g,cap,cur,rfl,h1,hg,rest⟩
  ·exact .inl hk
  ·exact .inr ⟨g,cap,cur,rfl,h1,by rw [h.block g (Array.getElem?_eq_some_iff.1 hg).1 hn];exact hg,rest⟩
theorem Ap1.but {wA:World} {base:Nat} {e:TypeId} {s n no:Nat} {v v1:Value} {xs xo:List Value} (h:Ap1 w wA base e s v v1 n xs) (hv:w.ownsRow base e s v no xo) (k:But B B w0 w) (hb:w0.heap.size≤base):But B B w0 wA:=
 ⟨h.os.trans k.os,h.tape.trans k.tape,h.output.trans k.output,Nat.le_trans k.size h.size,fun j hj h1 h2=>(h.block j (Nat.lt_of_lt_of_le hj k.size) (fun c=>by have:=(hv.lt j c.symm).1;omega)).trans (k.block j hj h1 h2)⟩
theorem set_but {w2:World} {j:Nat} {x:Value} (k:But B B w0 w2) (M:Nat) (hM:w0.heap.size≤M):But B B w0 (w2.setCell ⟨M,j,none⟩ x):=
 ⟨k.os,k.tape,k.output,by rw [World.size_setCell];exact k.size,fun i hi h1 h2=>by rw [block_setCell z0b];exact k.block i hi h1 h2⟩
theorem MsI.pushF {wA:World} {v1:Value} (h:MsI w0 B w m vF vN vS) (x:PF) (hA:Ap1 w wA (w0.heap.size+1) 70 6 vF v1 (m.F.length+1) (rowPF m.F ++ x.cells)) :
  MsI w0 B (wA.setCell ⟨w0.heap.size,1,none⟩ v1) { m with F:=m.F ++ [x] } v1 vN vS:=by
 have hbl:=h.bl
 have hne:some w0.heap.size≠vF.ownBlock:=fun c=>by have:=(h.oF.lt _ c.symm).1;omega
 have hk:=hA.block _ hbl hne
 have e:∀ (j:Nat) {u:Value},w.cell? ⟨w0.heap.size,j,none⟩=some u→wA.cell? ⟨w0.heap.size,j,none⟩=some u:=fun j _ hc=>(World.cell?_of_block (a:=⟨w0.heap.size,j,none⟩) hk).trans hc
 obtain ⟨h0,h1,h2,h3⟩:=h.c
 exact ⟨set_but (hA.but h.oF h.b (Nat.le_succ _)) _ (Nat.le_refl _),h.lt,⟨set_far z0c (e 0 h0),World.cell?_setCell_same _ _ _ (e 1 h1),set_far z0c (e 2 h2),set_far z0c (e 3 h3)⟩,fun j=>by rw [World.frozen?_setCell,World.frozen?_of_block (a:=⟨w0.heap.size,j,none⟩) hk];exact h.f j,
  by rw [List.length_append,rowPF_snoc];exact own_setCell hA.o (Nat.lt_succ_self _),own_setCell (hA.row h.oF h.oN z0g) (Nat.lt_succ_self _),own_setCell (hA.row h.oF h.oS z0g) (Nat.lt_succ_self _)⟩
theorem MsI.pushN {wA:World} {v1:Value} (h:MsI w0 B w m vF vN vS) (x:Nat) (hA:Ap1 w wA (w0.heap.size+1) 3 1 vN v1 (m.N.length+1) (rowPN m.N ++ [.int .i64 (x:Nat)])) :
  MsI w0 B (wA.setCell ⟨w0.heap.size,2,none⟩ v1) { m with N:=m.N ++ [x] } vF v1 vS:=by
 have hbl:=h.bl
 have hne:some w0.heap.size≠vN.ownBlock:=fun c=>by have:=(h.oN.lt _ c.symm).1;omega
 have hk:=hA.block _ hbl hne
 have e:∀ (j:Nat) {u:Value},w.cell? ⟨w0.heap.size,j,none⟩=some u→wA.cell? ⟨w0.heap.size,j,none⟩=some u:=fun j _ hc=>(World.cell?_of_block (a:=⟨w0.heap.size,j,none⟩) hk).trans hc
 obtain ⟨h0,h1,h2,h3⟩:=h.c
 exact ⟨set_but (hA.but h.oN h.b (Nat.le_succ _)) _ (Nat.le_refl _),h.lt,⟨set_far z0c (e 0 h0),set_far z0c (e 1 h1),World.cell?_setCell_same _ _ _ (e 2 h2),set_far z0c (e 3 h3)⟩,fun j=>by rw [World.frozen?_setCell,World.frozen?_of_block (a:=⟨w0.heap.size,j,none⟩) hk];exact h.f j,
  own_setCell (hA.row h.oN h.oF z0g) (Nat.lt_succ_self _),by rw [List.length_append,rowPN_snoc];exact own_setCell hA.o (Nat.lt_succ_self _),own_setCell (hA.row h.oN h.oS z0g) (Nat.lt_succ_self _)⟩
theorem MsI.pushS {wA:World} {v1:Value} (h:MsI w0 B w m vF vN vS) (x:ByteArray) (hA:Ap1 w wA (w0.heap.size+1) 9 1 vS v1 (m.S.length+1) (rowPS m.S ++ [.string x])) :
  MsI w0 B (wA.setCell ⟨w0.heap.size,3,none⟩ v1) { m with S:=m.S ++ [x] } vF vN v1:=by
 have hbl:=h.bl
 have hne:some w0.heap.size≠vS.ownBlock:=fun c=>by have:=(h.oS.lt _ c.symm).1;omega
 have hk:=hA.block _ hbl hne
 have e:∀ (j:Nat) {u:Value},w.cell? ⟨w0.heap.size,j,none⟩=some u→wA.cell? ⟨w0.heap.size,j,none⟩=some u:=fun j _ hc=>(World.cell?_of_block (a:=⟨w0.heap.size,j,none⟩) hk).trans hc
 obtain ⟨h0,h1,h2,h3⟩:=h.c
 exact ⟨set_but (hA.but h.oS h.b (Nat.le_succ _)) _ (Nat.le_refl _),h.lt,⟨set_far z0c (e 0 h0),set_far z0c (e 1 h1),set_far z0c (e 2 h2),World.cell?_setCell_same _ _ _ (e 3 h3)⟩,fun j=>by rw [World.frozen?_setCell,World.frozen?_of_block (a:=⟨w0.heap.size,j,none⟩) hk];exact h.f j,
  own_setCell (hA.row h.oS h.oF z0g) (Nat.lt_succ_self _),own_setCell (hA.row h.oS h.oN z0g) (Nat.lt_succ_self _),by rw [List.length_append,rowPS_snoc];exact own_setCell hA.o (Nat.lt_succ_self _)⟩
end
theorem flat_get {α:Type} (f:α→List Value) (s:Nat) (hf:∀ x,(f x).length=s):∀ (l:List α) (i j:Nat) (hi:i < l.length),j < s→(l.flatMap f)[i * s+j]? = (f l[i])[j]?
 | [],i,_,hi,_=>absurd hi (Nat.not_lt_zero _)
 | x :: l,0,j,_,hj=>by
  rw [List.flatMap_cons,Nat.zero_mul,Nat.zero_add,List.getElem?_append_left (by rw [hf];exact hj)]
  rfl
 | x :: l,i+1,j,hi,hj=>by
  have e:(i+1) * s+j=(f x).length+(i * s+j):=by rw [hf,Nat.succ_mul];omega
  rw [List.flatMap_cons,e,List.getElem?_append_right z0b,Nat.add_sub_cancel_left,flat_get f s hf l i j (by simpa using hi) hj]
  rfl
theorem row_flat {α:Type} {w:World} {base s:Nat} {e:TypeId} {v:Value} (f:α→List Value) (hf:∀ x,(f x).length=s) (l:List α) (h:w.ownsRow base e s v l.length (l.flatMap f)) :
  ∃ a c,v=.slice a l.length c∧l.length≤c∧c≤maxLen∧(∀ ad,a=some ad→base≤ad.block∧ad.block < w.heap.size) ∧
   (l.length=0∨∃ b,a=some ⟨b,0,none⟩∧b < w.heap.size∧∀ i (hi:i < l.length),∀ j,j < s→w.cell? ⟨b,i * s+j,none⟩=(f l[i])[j]?):=by
 rcases h.2 with ⟨rfl,e0⟩|⟨g,cap,cur,rfl,h1,hg,h2,h3,-⟩
 ·exact ⟨none,0,by rw [e0],by omega,Nat.zero_le _,fun ad e=>(by cases e),.inl e0⟩
 ·have hl:=h.lt g rfl
  refine ⟨_,cap,rfl,h2,h3,fun ad e=>?_,.inr ⟨g,rfl,hl.2,fun i hi j hj=>?_⟩⟩
  ·injection e with e
   subst e
   exact hl
  ·have e1:=flat_get f s hf l i j hi hj
   have hlen:j < (f l[i]).length:=by rw [hf];exact hj
   rw [List.getElem?_eq_getElem hlen] at e1 ⊢
   have:=h.cells (g:=g) rfl _ _ e1
   rw [addr_at,Nat.zero_add] at this
   exact this
theorem tk_form {w:World} {base:Nat} {v:Value} {l:List Tok} (h:w.ownsRow base 58 2 v l.length (rowTk l)) :
  ∃ a c,v=.slice a l.length c∧TIn w a l.length c (tkK l) (tkS l)∧∀ ad,a=some ad→base≤ad.block∧ad.block < w.heap.size:=by
 obtain ⟨a,c,rfl,h1,h2,h3,h4⟩:=row_flat (fun t:Tok=>[Value.int .i64 t.1,Value.string t.2]) (fun _=>rfl) l h
 refine ⟨a,c,rfl,⟨h1,h2,?_⟩,h3⟩
 rcases h4 with h0|⟨b,rfl,hb,hc⟩
 ·exact .inl h0
 ·refine .inr ⟨b,0,rfl,hb,fun i hi=>?_⟩
  have e1:=hc i hi 0 z0b
  have e2:=hc i hi 1 z0b
  have ek:tkK l i=(l[i]).1:=by unfold tkK;rw [List.getD_eq_getElem?_getD,List.getElem?_eq_getElem hi];rfl
  have es:tkS l i=(l[i]).2:=by unfold tkS;rw [List.getD_eq_getElem?_getD,List.getElem?_eq_getElem hi];rfl
  rw [ek,es]
  exact ⟨by rw [Nat.zero_add];exact e1,by rw [Nat.zero_add];exact e2⟩
def TokOk (n:Nat) (t:Tok):Prop:=t.2.size≤n∧(t.1=2→t.2.size≤9∧∀ j,j < t.2.size→48≤byteN t.2 j∧byteN t.2 j≤57)
theorem map_some {o:Option (List Tok)} {t:Tok} {l:List Tok} (h:o.map (t :: ·)=some l):∃ l',o=some l'∧l=t :: l':=by
 cases o with
 | none=>cases h
 | some x=>exact ⟨x,rfl,(Option.some.inj h).symm⟩
theorem tok_ok {s:ByteArray}:∀ (f i:Nat) (l:List Tok),i≤s.size→tokN s f i=some l→∀ t ∈ l,TokOk s.size t:=by
 intro f
 induction f with
 | zero=>intro i l _ h t ht;simp only [tokN] at h;injection h with h;subst h;cases ht
 | succ f ih=>
  intro i l hi h t ht
  simp only [tokN] at h
  by_cases h0:s.size≤i
  ·rw [if_pos h0] at h;injection h with h;subst h;cases ht
  rw [if_neg h0] at h
  have le1:∀ (p:Nat→Bool),runE p s.size (i+1)≤s.size:=fun p=>runE_le z0b
  by_cases h1:blankN (byteN s i)=true
  ·rw [if_pos h1] at h;exact ih _ _ z0b h t ht
  rw [if_neg h1] at h
  by_cases h2:remN s i=true
  ·rw [if_pos h2] at h;exact ih _ _ (runE_le hi) h t ht
  rw [if_neg h2] at h
  by_cases h3:letterN (byteN s i)=true
  ·rw [if_pos h3] at h
   obtain ⟨l',h',rfl⟩:=map_some h
   rcases List.mem_cons.1 ht with rfl|ht
   ·exact ⟨by show (s.extract i (wordE s i)).size≤_;have hle:wordE s i≤s.size:=le1 _;rw [ext_size hle];omega,fun e=>by cases e⟩
   ·exact ih _ _ (le1 _) h' t ht
  rw [if_neg h3] at h
  by_cases h4:digitN (byteN s i)=true
  ·rw [if_pos h4] at h
   by_cases h5:9 < digE s i - i∨(byteN s i=48∧1 < digE s i - i)
   ·rw [if_pos h5] at h;cases h
   rw [if_neg h5] at h
   obtain ⟨l',h',rfl⟩:=map_some h
   have hle:digE s i≤s.size:=le1 _
   rcases List.mem_cons.1 ht with rfl|ht
   ·have hsz:(s.extract i (digE s i)).size=digE s i - i:=ext_size hle
    refine ⟨by show (s.extract i (digE s i)).size≤_;omega,fun _=>⟨by show (s.extract i (digE s i)).size≤_;omega,fun j hj=>?_⟩⟩
    have hj:j < (s.extract i (digE s i)).size:=hj
    have hd:digitN (byteN s (i+j))=true:=by
     cases j with
     | zero=>exact h4
     | succ j=>exact runTo_all (p:=fun j=>digitN (byteN s j)) (n:=s.size) (s.size - (i+1)) (i+1) (i+(j+1)) z0b (by show i+(j+1) < digE s i;omega)
    show 48≤byteN (s.extract i (digE s i)) j∧byteN (s.extract i (digE s i)) j≤57
    rw [ext_at hle z0b]
    exact of_decide_eq_true hd
   ·exact ih _ _ hle h' t ht
  rw [if_neg h4] at h
  by_cases h6:byteN s i=34
  ·rw [if_pos h6] at h
   by_cases h7:quoE s i=s.size∨named (s.extract (i+1) (quoE s i))=false
   ·rw [if_pos h7] at h;cases h
   rw [if_neg h7] at h
   have hle:quoE s i≤s.size:=le1 _
   obtain ⟨l',h',rfl⟩:=map_some h
   rcases List.mem_cons.1 ht with rfl|ht
   ·exact ⟨by show (s.extract (i+1) (quoE s i)).size≤_;rw [ext_size hle];omega,fun e=>by cases e⟩
   ·exact ih _ _ z0b h' t ht
  rw [if_neg h6] at h
  by_cases h8:signN (byteN s i)=true
  ·rw [if_pos h8] at h
   obtain ⟨l',h',rfl⟩:=map_some h
   rcases List.mem_cons.1 ht with rfl|ht
   ·exact ⟨by show (s.extract i (i+1)).size≤_;rw [ext_size z0b];omega,fun e=>by cases e⟩
   ·exact ih _ _ z0b h' t ht
  ·rw [if_neg h8] at h;cases h
theorem tk_dig {s:ByteArray} {l:List Tok} (h:tokN s (s.size+1) 0=some l):DigT (tkK l) (tkS l) l.length∧∀ i,(tkS l i).size≤s.size:=by
 have ho:∀ i (hi:i < l.length),TokOk s.size l[i]:=fun i hi=>tok_ok _ _ _ (Nat.zero_le _) h _ (List.getElem_mem hi)
 have ek:∀ i (hi:i < l.length),tkK l i=(l[i]).1:=fun i hi=>by unfold tkK;rw [List.getD_eq_getElem?_getD,List.getElem?_eq_getElem hi];rfl
 have es:∀ i (hi:i < l.length),tkS l i=(l[i]).2:=fun i hi=>by unfold tkS;rw [List.getD_eq_getElem?_getD,List.getElem?_eq_getElem hi];rfl
 refine ⟨fun i hi hk=>?_,fun i=>?_⟩
 ·rw [es i hi]
  exact (ho i hi).2 ((ek i hi).symm.trans hk)
 ·by_cases hi:i < l.length
  ·rw [es i hi];exact (ho i hi).1
  ·unfold tkS
   rw [List.getD_eq_getElem?_getD,List.getElem?_eq_none z0b]
   exact Nat.zero_le _
end Go.Proofs.YtfondldmmcmloaaDoor
