/- Tk2, Tk3, Tk4, Tk5. -/
import Derived.Test.YtfondldmmcmloaaDoorPd21
set_option maxRecDepth 1000000
set_option maxHeartbeats 8000000
namespace Go.Proofs.YtfondldmmcmloaaDoor
open Go Go.RowKit
theorem z22zk1 {p:Prop} (h:p:=by
 by_cases cA:9 < e - i
 ·have a1:(9:Int) < (e:Int) - (i:Int):=by omega
  repeat any_goals (first|(go_at_call 23;with_reducible refine (C5.out).mono ?_;rintro e w4 ⟨rfl,hw4⟩;rw [hw4])|go_skip|go_guarded|go_step|go_upon|(dsimp only []))
  exact hret _ _ rfl rfl rfl (TI.out.digN hi HB2.out HRM.out HLC.out HDC.out z0z) hW
 have a1:¬ (9:Int) < (e:Int) - (i:Int):=by omega
 by_cases cB:C=48
 ·have a2:((C:Int) == 48)=true:=by simp [cB]
  by_cases cD:1 < e - i
  ·have a3:(1:Int) < (e:Int) - (i:Int):=by omega
   repeat any_goals (first|(go_at_call 23;with_reducible refine (C5.out).mono ?_;rintro e w4 ⟨rfl,hw4⟩;rw [hw4])|go_skip|go_guarded|go_step|go_upon|(dsimp only []))
   exact hret _ _ rfl rfl rfl (TI.out.digN hi HB2.out HRM.out HLC.out HDC.out z0z) hW
  ·have a3:¬ (1:Int) < (e:Int) - (i:Int):=by omega
   obtain ⟨f',h⟩:=TI.out.dig hi HB2.out HRM.out HLC.out HDC.out z0z
   rw [hE] at h
   repeat any_goals (first|(at_builtin;refine wpList_append_own _ rfl (.tmp 145) (.tmp 151) 44 rfl w.heap.size 58 iT (.agg #[.int .i64 0,.string ⟨#[]⟩]) 2 24 Tryd.underlying44 hiT htT0 htT1 htT2 rfl z0g _ l.length (rowTk l) rfl (OW.out.alloc _) _ 1 1 [.int .i64 2,.string (s.extract i e)] rfl rfl news_two one_tok (len_max z0b rfl) z0b z0l ?_;intro v1 w3 own1 hg1 _hi1;have hB1:Below w.heap.size w w3:=(below_alloc hW _).grown hg1 z0l (fun k h=>(OW.out.lt k h).1))|go_skip|go_guarded|go_step|go_upon|(dsimp only []))
   exact spX_of (e) f' (l ++ [(2,s.extract i e)]) rfl rfl rfl h z0n hB1 z0b
 ·have a2:((C:Int) == 48)=false:=beq_false_of_ne z0b
  obtain ⟨f',h⟩:=TI.out.dig hi HB2.out HRM.out HLC.out HDC.out z0z
  rw [hE] at h
  repeat any_goals (first|(at_builtin;refine wpList_append_own _ rfl (.tmp 145) (.tmp 151) 44 rfl w.heap.size 58 iT (.agg #[.int .i64 0,.string ⟨#[]⟩]) 2 24 Tryd.underlying44 hiT htT0 htT1 htT2 rfl z0g _ l.length (rowTk l) rfl (OW.out.alloc _) _ 1 1 [.int .i64 2,.string (s.extract i e)] rfl rfl news_two one_tok (len_max z0b rfl) z0b z0l ?_;intro v1 w3 own1 hg1 _hi1;have hB1:Below w.heap.size w w3:=(below_alloc hW _).grown hg1 z0l (fun k h=>(OW.out.lt k h).1))|go_skip|go_guarded|go_step|go_upon|(dsimp only []))
  exact spX_of (e) f' (l ++ [(2,s.extract i e)]) rfl rfl rfl h z0n hB1 z0b):p:=h
theorem z22zk2 {p:Prop} (h:p:=by
 repeat any_goals (first|go_skip|go_guarded|go_step|go_upon|(simp only [];done))
 exact spX_of (i+1) f' l rfl rfl rfl h OW.out hW z0b):p:=h
end Go.Proofs.YtfondldmmcmloaaDoor
namespace Go.Proofs.YtfondldmmcmloaaDoor
open Go Go.RowKit
def firstLoop:Code→Option Code
 | .loop c=>some c
 | .seq a b=>match firstLoop a with
  | some c=>some c
  | none=>firstLoop b
 | .block _ c=>firstLoop c
 | .scope c=>firstLoop c
 | .cond _ a b=>match firstLoop a with
  | some c=>some c
  | none=>firstLoop b
 | _=>none
noncomputable def spBody:Code:=((Tryd.f12.body.bind firstLoop).getD .skip)
def spF (s:ByteArray) (u:Nat→Value) (iv:Value):Array Value:=#[.string s,u 1,u 2,u 3,u 4,iv,u 6,u 7,u 8,u 9,u 10,u 11,u 12,u 13,u 14,u 15,u 16,u 17,u 18,u 19,u 20,u 21,u 22,u 23,u 24,u 25,u 26,u 27,u 28,u 29,u 30,u 31,u 32,u 33,u 34,u 35,u 36,u 37,u 38,u 39,u 40,u 41,u 42,u 43,u 44,u 45,u 46,u 47,u 48,u 49,u 50,u 51,u 52,u 53,u 54,u 55,u 56,u 57,u 58,u 59,u 60,u 61,u 62,u 63,u 64,u 65,u 66,u 67,u 68,u 69,u 70,u 71,u 72,u 73,u 74,u 75,u 76,u 77,u 78,u 79,u 80,u 81,u 82,u 83,u 84,u 85,u 86,u 87,u 88,u 89,u 90,u 91,u 92,u 93,u 94,u 95,u 96,u 97,u 98,u 99,u 100,u 101,u 102,u 103,u 104,u 105,u 106,u 107,u 108,u 109,u 110,u 111,u 112,u 113,u 114,u 115,u 116,u 117,u 118,u 119,u 120,u 121,u 122,u 123,u 124,u 125,u 126,u 127,u 128,u 129,u 130,u 131,u 132,u 133,u 134,u 135,u 136,u 137,u 138,u 139,u 140,u 141,u 142,u 143,u 144,u 145,u 146,u 147,u 148,u 149,u 150,u 151,u 152,u 153,u 154,u 155,u 156,u 157,u 158,u 159,u 160,u 161,u 162,u 163,u 164,u 165,u 166,u 167,u 168,u 169,u 170,u 171,u 172,u 173,u 174,u 175,u 176,u 177,u 178,u 179,u 180,u 181,u 182,u 183,u 184,u 185,u 186,u 187,u 188,u 189,u 190,u 191,u 192,u 193]
def SpI (s:ByteArray) (F:Nat) (w:World) (a:Act) (wq:World):Prop:=
 ∃ (u:Nat→Value) (i f:Nat) (l:List Tok),a=⟨spF s u (.int .i64 (i:Nat)),[]⟩∧TkI s F i f l∧wq.ownsRow w.heap.size 58 2 (u 4) l.length (rowTk l)∧Below w.heap.size w wq
def SpM (s:ByteArray) (a:Act) (_:World):Nat:=s.size - (intOf (a.tmps.getD 5 undef)).toNat
def SpX (s:ByteArray) (F:Nat) (w:World) (n:Nat) (a:Act) (wq:World):Prop:=SpI s F w a wq∧SpM s a wq < n
theorem arr_lit {A:Array Value} (h:A.size=194):A=#[A.getD 0 undef,A.getD 1 undef,A.getD 2 undef,A.getD 3 undef,A.getD 4 undef,A.getD 5 undef,A.getD 6 undef,A.getD 7 undef,A.getD 8 undef,A.getD 9 undef,A.getD 10 undef,A.getD 11 undef,A.getD 12 undef,A.getD 13 undef,A.getD 14 undef,A.getD 15 undef,A.getD 16 undef,A.getD 17 undef,A.getD 18 undef,A.getD 19 undef,A.getD 20 undef,A.getD 21 undef,A.getD 22 undef,A.getD 23 undef,A.getD 24 undef,A.getD 25 undef,A.getD 26 undef,A.getD 27 undef,A.getD 28 undef,A.getD 29 undef,A.getD 30 undef,A.getD 31 undef,A.getD 32 undef,A.getD 33 undef,A.getD 34 undef,A.getD 35 undef,A.getD 36 undef,A.getD 37 undef,A.getD 38 undef,A.getD 39 undef,A.getD 40 undef,A.getD 41 undef,A.getD 42 undef,A.getD 43 undef,A.getD 44 undef,A.getD 45 undef,A.getD 46 undef,A.getD 47 undef,A.getD 48 undef,A.getD 49 undef,A.getD 50 undef,A.getD 51 undef,A.getD 52 undef,A.getD 53 undef,A.getD 54 undef,A.getD 55 undef,A.getD 56 undef,A.getD 57 undef,A.getD 58 undef,A.getD 59 undef,A.getD 60 undef,A.getD 61 undef,A.getD 62 undef,A.getD 63 undef,A.getD 64 undef,A.getD 65 undef,A.getD 66 undef,A.getD 67 undef,A.getD 68 undef,A.getD 69 undef,A.getD 70 undef,A.getD 71 undef,A.getD 72 undef,A.getD 73 undef,A.getD 74 undef,A.getD 75 undef,A.getD 76 undef,A.getD 77 undef,A.getD 78 undef,A.getD 79 undef,A.getD 80 undef,A.getD 81 undef,A.getD 82 undef,A.getD 83 undef,A.getD 84 undef,A.getD 85 undef,A.getD 86 undef,A.getD 87 undef,A.getD 88 undef,A.getD 89 undef,A.getD 90 undef,A.getD 91 undef,A.getD 92 undef,A.getD 93 undef,A.getD 94 undef,A.getD 95 undef,A.getD 96 undef,A.getD 97 undef,A.getD 98 undef,A.getD 99 undef,A.getD 100 undef,A.getD 101 undef,A.getD 102 undef,A.getD 103 undef,A.getD 104 undef,A.getD 105 undef,A.getD 106 undef,A.getD 107 undef,A.getD 108 undef,A.getD 109 undef,A.getD 110 undef,A.getD 111 undef,A.getD 112 undef,A.getD 113 undef,A.getD 114 undef,A.getD 115 undef,A.getD 116 undef,A.getD 117 undef,A.getD 118 undef,A.getD 119 undef,A.getD 120 undef,A.getD 121 undef,A.getD 122 undef,A.getD 123 undef,A.getD 124 undef,A.getD 125 undef,A.getD 126 undef,A.getD 127 undef,A.getD 128 undef,A.getD 129 undef,A.getD 130 undef,A.getD 131 undef,A.getD 132 undef,A.getD 133 undef,A.getD 134 undef,A.getD 135 undef,A.getD 136 undef,A.getD 137 undef,A.getD 138 undef,A.getD 139 undef,A.getD 140 undef,A.getD 141 undef,A.getD 142 undef,A.getD 143 undef,A.getD 144 undef,A.getD 145 undef,A.getD 146 undef,A.getD 147 undef,A.getD 148 undef,A.getD 149 undef,A.getD 150 undef,A.getD 151 undef,A.getD 152 undef,A.getD 153 undef,A.getD 154 undef,A.getD 155 undef,A.getD 156 undef,A.getD 157 undef,A.getD 158 undef,A.getD 159 undef,A.getD 160 undef,A.getD 161 undef,A.getD 162 undef,A.getD 163 undef,A.getD 164 undef,A.getD 165 undef,A.getD 166 undef,A.getD 167 undef,A.getD 168 undef,A.getD 169 undef,A.getD 170 undef,A.getD 171 undef,A.getD 172 undef,A.getD 173 undef,A.getD 174 undef,A.getD 175 undef,A.getD 176 undef,A.getD 177 undef,A.getD 178 undef,A.getD 179 undef,A.getD 180 undef,A.getD 181 undef,A.getD 182 undef,A.getD 183 undef,A.getD 184 undef,A.getD 185 undef,A.getD 186 undef,A.getD 187 undef,A.getD 188 undef,A.getD 189 undef,A.getD 190 undef,A.getD 191 undef,A.getD 192 undef,A.getD 193 undef]:=by
 have e:#[A.getD 0 undef,A.getD 1 undef,A.getD 2 undef,A.getD 3 undef,A.getD 4 undef,A.getD 5 undef,A.getD 6 undef,A.getD 7 undef,A.getD 8 undef,A.getD 9 undef,A.getD 10 undef,A.getD 11 undef,A.getD 12 undef,A.getD 13 undef,A.getD 14 undef,A.getD 15 undef,A.getD 16 undef,A.getD 17 undef,A.getD 18 undef,A.getD 19 undef,A.getD 20 undef,A.getD 21 undef,A.getD 22 undef,A.getD 23 undef,A.getD 24 undef,A.getD 25 undef,A.getD 26 undef,A.getD 27 undef,A.getD 28 undef,A.getD 29 undef,A.getD 30 undef,A.getD 31 undef,A.getD 32 undef,A.getD 33 undef,A.getD 34 undef,A.getD 35 undef,A.getD 36 undef,A.getD 37 undef,A.getD 38 undef,A.getD 39 undef,A.getD 40 undef,A.getD 41 undef,A.getD 42 undef,A.getD 43 undef,A.getD 44 undef,A.getD 45 undef,A.getD 46 undef,A.getD 47 undef,A.getD 48 undef,A.getD 49 undef,A.getD 50 undef,A.getD 51 undef,A.getD 52 undef,A.getD 53 undef,A.getD 54 undef,A.getD 55 undef,A.getD 56 undef,A.getD 57 undef,A.getD 58 undef,A.getD 59 undef,A.getD 60 undef,A.getD 61 undef,A.getD 62 undef,A.getD 63 undef,A.getD 64 undef,A.getD 65 undef,A.getD 66 undef,A.getD 67 undef,A.getD 68 undef,A.getD 69 undef,A.getD 70 undef,A.getD 71 undef,A.getD 72 undef,A.getD 73 undef,A.getD 74 undef,A.getD 75 undef,A.getD 76 undef,A.getD 77 undef,A.getD 78 undef,A.getD 79 undef,A.getD 80 undef,A.getD 81 undef,A.getD 82 undef,A.getD 83 undef,A.getD 84 undef,A.getD 85 undef,A.getD 86 undef,A.getD 87 undef,A.getD 88 undef,A.getD 89 undef,A.getD 90 undef,A.getD 91 undef,A.getD 92 undef,A.getD 93 undef,A.getD 94 undef,A.getD 95 undef,A.getD 96 undef,A.getD 97 undef,A.getD 98 undef,A.getD 99 undef,A.getD 100 undef,A.getD 101 undef,A.getD 102 undef,A.getD 103 undef,A.getD 104 undef,A.getD 105 undef,A.getD 106 undef,A.getD 107 undef,A.getD 108 undef,A.getD 109 undef,A.getD 110 undef,A.getD 111 undef,A.getD 112 undef,A.getD 113 undef,A.getD 114 undef,A.getD 115 undef,A.getD 116 undef,A.getD 117 undef,A.getD 118 undef,A.getD 119 undef,A.getD 120 undef,A.getD 121 undef,A.getD 122 undef,A.getD 123 undef,A.getD 124 undef,A.getD 125 undef,A.getD 126 undef,A.getD 127 undef,A.getD 128 undef,A.getD 129 undef,A.getD 130 undef,A.getD 131 undef,A.getD 132 undef,A.getD 133 undef,A.getD 134 undef,A.getD 135 undef,A.getD 136 undef,A.getD 137 undef,A.getD 138 undef,A.getD 139 undef,A.getD 140 undef,A.getD 141 undef,A.getD 142 undef,A.getD 143 undef,A.getD 144 undef,A.getD 145 undef,A.getD 146 undef,A.getD 147 undef,A.getD 148 undef,A.getD 149 undef,A.getD 150 undef,A.getD 151 undef,A.getD 152 undef,A.getD 153 undef,A.getD 154 undef,A.getD 155 undef,A.getD 156 undef,A.getD 157 undef,A.getD 158 undef,A.getD 159 undef,A.getD 160 undef,A.getD 161 undef,A.getD 162 undef,A.getD 163 undef,A.getD 164 undef,A.getD 165 undef,A.getD 166 undef,A.getD 167 undef,A.getD 168 undef,A.getD 169 undef,A.getD 170 undef,A.getD 171 undef,A.getD 172 undef,A.getD 173 undef,A.getD 174 undef,A.getD 175 undef,A.getD 176 undef,A.getD 177 undef,A.getD 178 undef,A.getD 179 undef,A.getD 180 undef,A.getD 181 undef,A.getD 182 undef,A.getD 183 undef,A.getD 184 undef,A.getD 185 undef,A.getD 186 undef,A.getD 187 undef,A.getD 188 undef,A.getD 189 undef,A.getD 190 undef,A.getD 191 undef,A.getD 192 undef,A.getD 193 undef]=((List.range 194).map fun k=>A.getD k undef).toArray:=rfl
 rw [e]
 apply Array.ext
 ·simp [h]
 ·intro k h1 h2
  simp [Array.getD,h1]
theorem spX_of {s:ByteArray} {F:Nat} {w wq:World} {n:Nat} {A:Array Value} (i f:Nat) (l:List Tok) (h:A.size=194) (h0:A.getD 0 undef=.string s) (h5:A.getD 5 undef=.int .i64 (i:Nat)) (TI:TkI s F i f l)
  (ho:wq.ownsRow w.heap.size 58 2 (A.getD 4 undef) l.length (rowTk l)) (hW:Below w.heap.size w wq) (hlt:s.size - i < n):SpX s F w n ⟨A,[]⟩ wq:=by
 refine ⟨⟨fun k=>A.getD k undef,i,f,l,?_,TI,ho,hW⟩,?_⟩
 ·have e:=arr_lit h
  rw [h0,h5] at e
  unfold spF
  exact congrArg (fun x=>Act.mk x []) e
 ·unfold SpM
  show s.size - (intOf (A.getD 5 undef)).toNat < n
  rw [h5]
  simpa [intOf] using hlt
theorem sp_blank (s:ByteArray) (F:Nat) (w wr:World) (u:Nat→Value) (i f:Nat) (l:List Tok) (hs:s.size≤8192) (TI:Hid (TkI s F i f l)) (OW:Hid (wr.ownsRow w.heap.size 58 2 (u 4) l.length (rowTk l))) (hW:Below w.heap.size w wr) (hi:i < s.size)
  (C:Nat) (HBC:Hid (byteN s i=C)) (hb:blankN C=true) (Q0:Exit→Act→World→Prop) :
  Code.wp Tryd.prog spBody (Exit.then (SpX s F w (s.size - i)) Q0) ⟨#[.string s,u 1,u 2,u 3,u 4,.int .i64 (i:Nat),u 6,u 7,u 8,u 9,u 10,u 11,u 12,u 13,u 14,u 15,u 16,u 17,u 18,u 19,u 20,u 21,u 22,u 23,u 24,u 25,u 26,u 27,u 28,u 29,u 30,u 31,u 32,u 33,u 34,u 35,u 36,u 37,u 38,u 39,u 40,u 41,u 42,u 43,u 44,u 45,u 46,u 47,u 48,u 49,u 50,u 51,u 52,u 53,u 54,u 55,u 56,u 57,u 58,u 59,u 60,u 61,u 62,u 63,u 64,u 65,u 66,u 67,u 68,u 69,u 70,u 71,u 72,u 73,u 74,u 75,u 76,u 77,u 78,u 79,u 80,u 81,u 82,u 83,u 84,u 85,u 86,u 87,u 88,u 89,u 90,u 91,u 92,u 93,u 94,u 95,u 96,u 97,u 98,u 99,u 100,u 101,u 102,u 103,u 104,u 105,u 106,u 107,u 108,u 109,u 110,u 111,u 112,u 113,u 114,u 115,u 116,u 117,u 118,u 119,u 120,u 121,u 122,u 123,u 124,u 125,u 126,u 127,u 128,u 129,u 130,u 131,u 132,u 133,u 134,u 135,u 136,u 137,u 138,u 139,u 140,u 141,u 142,u 143,u 144,u 145,u 146,u 147,u 148,u 149,u 150,u 151,u 152,u 153,u 154,u 155,u 156,u 157,u 158,u 159,u 160,u 161,u 162,u 163,u 164,u 165,u 166,u 167,u 168,u 169,u 170,u 171,u 172,u 173,u 174,u 175,u 176,u 177,u 178,u 179,u 180,u 181,u 182,u 183,u 184,u 185,u 186,u 187,u 188,u 189,u 190,u 191,u 192,u 193],[]⟩ wr:=by
 conv=>arg 2;whnf
 have i1:(i:Int) < (s.size:Int):=by omega
 have i2:(0:Int)≤(i:Int):=by omega
 have i5:(i:Int).toNat=i:=rfl
 have hC:((s[i]'hi).toNat:Int)=(C:Int):=by rw [← byteN_at s i hi,HBC.out]
 obtain ⟨f',h⟩:=TI.out.blank hi (by rw [HBC.out];exact hb)
 by_cases c0:C=32
 ·have e0:((C:Int) == 32)=true:=by simp [c0]
  exact z22zk2
 have e0:((C:Int) == 32)=false:=beq_false_of_ne z0b
 by_cases c1:C=9
 ·have e1:((C:Int) == 9)=true:=by simp [c1]
  exact z22zk2
 have e1:((C:Int) == 9)=false:=beq_false_of_ne z0b
 by_cases c2:C=10
 ·have e2:((C:Int) == 10)=true:=by simp [c2]
  exact z22zk2
 have e2:((C:Int) == 10)=false:=beq_false_of_ne z0b
 by_cases c3:C=13
 ·have e3:((C:Int) == 13)=true:=by simp [c3]
  exact z22zk2
 exact absurd hb (by simp [blankN,c0,c1,c2,c3])
theorem sp_rem (s:ByteArray) (F:Nat) (w wr:World) (u:Nat→Value) (i f:Nat) (l:List Tok) (hs:s.size≤8192) (TI:Hid (TkI s F i f l)) (OW:Hid (wr.ownsRow w.heap.size 58 2 (u 4) l.length (rowTk l))) (hW:Below w.heap.size w wr) (hi:i < s.size)
  (C:Nat) (HBC:Hid (byteN s i=C)) (hb:blankN C=false) (hr:remN s i=true) (Q0:Exit→Act→World→Prop) :
  Code.wp Tryd.prog spBody (Exit.then (SpX s F w (s.size - i)) Q0) ⟨#[.string s,u 1,u 2,u 3,u 4,.int .i64 (i:Nat),u 6,u 7,u 8,u 9,u 10,u 11,u 12,u 13,u 14,u 15,u 16,u 17,u 18,u 19,u 20,u 21,u 22,u 23,u 24,u 25,u 26,u 27,u 28,u 29,u 30,u 31,u 32,u 33,u 34,u 35,u 36,u 37,u 38,u 39,u 40,u 41,u 42,u 43,u 44,u 45,u 46,u 47,u 48,u 49,u 50,u 51,u 52,u 53,u 54,u 55,u 56,u 57,u 58,u 59,u 60,u 61,u 62,u 63,u 64,u 65,u 66,u 67,u 68,u 69,u 70,u 71,u 72,u 73,u 74,u 75,u 76,u 77,u 78,u 79,u 80,u 81,u 82,u 83,u 84,u 85,u 86,u 87,u 88,u 89,u 90,u 91,u 92,u 93,u 94,u 95,u 96,u 97,u 98,u 99,u 100,u 101,u 102,u 103,u 104,u 105,u 106,u 107,u 108,u 109,u 110,u 111,u 112,u 113,u 114,u 115,u 116,u 117,u 118,u 119,u 120,u 121,u 122,u 123,u 124,u 125,u 126,u 127,u 128,u 129,u 130,u 131,u 132,u 133,u 134,u 135,u 136,u 137,u 138,u 139,u 140,u 141,u 142,u 143,u 144,u 145,u 146,u 147,u 148,u 149,u 150,u 151,u 152,u 153,u 154,u 155,u 156,u 157,u 158,u 159,u 160,u 161,u 162,u 163,u 164,u 165,u 166,u 167,u 168,u 169,u 170,u 171,u 172,u 173,u 174,u 175,u 176,u 177,u 178,u 179,u 180,u 181,u 182,u 183,u 184,u 185,u 186,u 187,u 188,u 189,u 190,u 191,u 192,u 193],[]⟩ wr:=by
 conv=>arg 2;whnf
 have i1:(i:Int) < (s.size:Int):=by omega
 have i2:(0:Int)≤(i:Int):=by omega
 have i5:(i:Int).toNat=i:=rfl
 have hC:((s[i]'hi).toNat:Int)=(C:Int):=by rw [← byteN_at s i hi,HBC.out]
 have hle:=TI.out.le
 have hln:=TI.out.ln
 have hb0:C≠32∧C≠9∧C≠10∧C≠13:=by simpa [blankN] using hb
 have e0:((C:Int) == 32)=false:=beq_false_of_ne z0b
 have e1:((C:Int) == 9)=false:=beq_false_of_ne z0b
 have e2:((C:Int) == 10)=false:=beq_false_of_ne z0b
 have e3:((C:Int) == 13)=false:=beq_false_of_ne z0b
 have HB2:=Lib.hid (show blankN (byteN s i)=false from by rw [HBC.out];exact hb)
 have hC2:C < 256:=by have:=byteN_lt s i;rw [HBC.out] at this;exact this
 clear hb
 have HRM:=Lib.hid hr
 have hr2:C=47∧∃ h:i+1 < s.size,(s[i+1]'h).toNat=47:=by
  unfold remN at hr
  simp only [Bool.and_eq_true,decide_eq_true_eq] at hr
  refine ⟨by rw [← HBC.out];exact hr.1,hr.2.1,?_⟩
  rw [← byteN_at s (i+1) hr.2.1]
  exact hr.2.2
 obtain ⟨c4,c5,c6⟩:=hr2
 have e4:((C:Int) == 47)=true:=by simp [c4]
 have j1:(i:Int)+1 < (s.size:Int):=by omega
 have j2:(0:Int)≤(i:Int)+1:=by omega
 have j5:((i:Int)+1).toNat=i+1:=by omega
 have e6:((s[i+1]'c5).toNat:Int)=47:=by omega
 obtain ⟨f',h⟩:=TI.out.rem hi HB2.out HRM.out
 have hg:=rem_gt hi HRM.out
 have H:=Lib.hid h
 clear hr c6 h
 repeat any_goals (first|go_skip|go_guarded|go_step|go_upon|(simp only [];done))
 go_loopw [5] (fun iv wq=>∃ j:Nat,iv=.int .i64 j∧i≤j∧j≤s.size∧runE (fun j => !decide (byteN s j=10)) s.size j=remE s i∧wr=wq) (fun iv _=>s.size - (intOf iv).toNat)
 case atStart=>exact ⟨i,rfl,Nat.le_refl _,hle,rfl,rfl⟩
 case round=>
  obtain ⟨j,rfl,hj1,hj2,hj3,hj4⟩:=hrel
  subst hj4
  have HJ3:=Lib.hid hj3
  clear hj3
  by_cases hjn:j < s.size
  ·have j1:(j:Int) < (s.size:Int):=by omega
   have j2:(0:Int)≤(j:Int):=by omega
   have j5:(j:Int).toNat=j:=rfl
   obtain ⟨D,hD⟩:∃ D:Nat,(s[j]'hjn).toNat=D:=⟨_,rfl⟩
   have HBD:=Lib.hid (show byteN s j=D by rw [byteN_at s j hjn];exact hD)
   by_cases c3:D=10
   ·have e3:((D:Int) != 10)=false:=by simp [c3]
    have hE:remE s i=j:=HJ3.out.symm.trans (runE_stop (by rw [HBD.out,c3];simp))
    repeat any_goals (first|go_skip|go_guarded|go_step|go_upon|(simp only [];done))
    exact spX_of j f' l rfl rfl rfl (hE ▸ H.out) OW.out hW z0b
   ·have e3:((D:Int) != 10)=true:=by simp;omega
    repeat any_goals (first|go_skip|go_guarded|go_step|go_upon|(simp only [];done))
    go_roundw
    case rel=>exact ⟨j+1,rfl,by omega,by omega,(runE_step hjn (by rw [HBD.out];simp [c3])).symm.trans HJ3.out,by trivial⟩
    case measure=>simp [intOf];omega
  ·have hje:j=s.size:=by omega
   have j1:¬ (j:Int) < (s.size:Int):=by omega
   have hE:remE s i=j:=HJ3.out.symm.trans (runE_stop z0b)
   repeat any_goals (first|go_skip|go_guarded|go_step|go_upon|(simp only [];done))
   exact spX_of j f' l rfl rfl rfl (hE ▸ H.out) OW.out hW z0b
theorem sp_word (s:ByteArray) (F:Nat) (w wr:World) (u:Nat→Value) (i f:Nat) (l:List Tok) (hs:s.size≤8192) (TI:Hid (TkI s F i f l)) (OW:Hid (wr.ownsRow w.heap.size 58 2 (u 4) l.length (rowTk l))) (hW:Below w.heap.size w wr) (hi:i < s.size)
  (C:Nat) (HBC:Hid (byteN s i=C)) (hb:blankN C=false) (hr:remN s i=false) (hc:letterN C=true) (Q0:Exit→Act→World→Prop) :
  Code.wp Tryd.prog spBody (Exit.then (SpX s F w (s.size - i)) Q0) ⟨#[.string s,u 1,u 2,u 3,u 4,.int .i64 (i:Nat),u 6,u 7,u 8,u 9,u 10,u 11,u 12,u 13,u 14,u 15,u 16,u 17,u 18,u 19,u 20,u 21,u 22,u 23,u 24,u 25,u 26,u 27,u 28,u 29,u 30,u 31,u 32,u 33,u 34,u 35,u 36,u 37,u 38,u 39,u 40,u 41,u 42,u 43,u 44,u 45,u 46,u 47,u 48,u 49,u 50,u 51,u 52,u 53,u 54,u 55,u 56,u 57,u 58,u 59,u 60,u 61,u 62,u 63,u 64,u 65,u 66,u 67,u 68,u 69,u 70,u 71,u 72,u 73,u 74,u 75,u 76,u 77,u 78,u 79,u 80,u 81,u 82,u 83,u 84,u 85,u 86,u 87,u 88,u 89,u 90,u 91,u 92,u 93,u 94,u 95,u 96,u 97,u 98,u 99,u 100,u 101,u 102,u 103,u 104,u 105,u 106,u 107,u 108,u 109,u 110,u 111,u 112,u 113,u 114,u 115,u 116,u 117,u 118,u 119,u 120,u 121,u 122,u 123,u 124,u 125,u 126,u 127,u 128,u 129,u 130,u 131,u 132,u 133,u 134,u 135,u 136,u 137,u 138,u 139,u 140,u 141,u 142,u 143,u 144,u 145,u 146,u 147,u 148,u 149,u 150,u 151,u 152,u 153,u 154,u 155,u 156,u 157,u 158,u 159,u 160,u 161,u 162,u 163,u 164,u 165,u 166,u 167,u 168,u 169,u 170,u 171,u 172,u 173,u 174,u 175,u 176,u 177,u 178,u 179,u 180,u 181,u 182,u 183,u 184,u 185,u 186,u 187,u 188,u 189,u 190,u 191,u 192,u 193],[]⟩ wr:=by
 conv=>arg 2;whnf
 have i1:(i:Int) < (s.size:Int):=by omega
 have i2:(0:Int)≤(i:Int):=by omega
 have i5:(i:Int).toNat=i:=rfl
 have hC:((s[i]'hi).toNat:Int)=(C:Int):=by rw [← byteN_at s i hi,HBC.out]
 have hle:=TI.out.le
 have hln:=TI.out.ln
 have hb0:C≠32∧C≠9∧C≠10∧C≠13:=by simpa [blankN] using hb
 have e0:((C:Int) == 32)=false:=beq_false_of_ne z0b
 have e1:((C:Int) == 9)=false:=beq_false_of_ne z0b
 have e2:((C:Int) == 10)=false:=beq_false_of_ne z0b
 have e3:((C:Int) == 13)=false:=beq_false_of_ne z0b
 have HB2:=Lib.hid (show blankN (byteN s i)=false from by rw [HBC.out];exact hb)
 have hC2:C < 256:=by have:=byteN_lt s i;rw [HBC.out] at this;exact this
 clear hb
 obtain ⟨iT,hiT,htT0,htT1,htT2⟩:=info_parts infoTok
 have h47:C≠47:=by rintro rfl;revert hc;decide
 have e4:((C:Int) == 47)=false:=beq_false_of_ne z0b
 have C5:=Lib.hid (RName_any (s.extract i (i+1)) (ext_max hs z0b) wr)
 rw [named_one hi,HBC.out,hc] at C5
 obtain ⟨f',h⟩:=TI.out.word hi HB2.out hr (by rw [HBC.out];exact hc)
 have H:=Lib.hid h
 clear hr hc h
 repeat any_goals (first|(go_at_call 23;with_reducible refine (C5.out).mono ?_;rintro e w4 ⟨rfl,hw4⟩;rw [hw4])|go_skip|go_guarded|go_step|go_upon|(dsimp only []))
 go_loopw [7] (fun ev wq=>∃ e:Nat,ev=.int .i64 e∧i+1≤e∧e≤s.size∧runE (fun j=>wordN (byteN s j)) s.size e=wordE s i∧wr=wq) (fun ev _=>s.size - (intOf ev).toNat)
 case atStart=>exact ⟨i+1,rfl,Nat.le_refl _,by omega,rfl,rfl⟩
 case round=>
  obtain ⟨e,rfl,he1,he2,he3,he4⟩:=hrel
  subst he4
  have HE3:=Lib.hid he3
  clear he3
  have j2:(0:Int)≤(e:Int):=by omega
  have j5:(e:Int).toNat=e:=rfl
  have j6:(i:Int)≤(e:Int):=by omega
  have j7:(e:Int)≤(s.size:Int):=by omega
  by_cases hen:e < s.size
  ·have j1:(e:Int) < (s.size:Int):=by omega
   have C6:=Lib.hid fun wx=>RName_any ((⟨#[97]⟩:ByteArray) ++ s.extract e (e+1)) (cat_max hs z0b) wx
   rw [named_a hen] at C6
   cases hw:wordN (byteN s e) with
   | true=>
    rw [hw] at C6
    repeat any_goals (first|(go_at_call 23;with_reducible refine (C6.out _).mono ?_;rintro e w4 ⟨rfl,hw4⟩;rw [hw4])|go_skip|go_guarded|go_step|go_upon|(dsimp only []))
    go_roundw
    case rel=>exact ⟨e+1,rfl,by omega,by omega,(runE_step hen hw).symm.trans HE3.out,by trivial⟩
    case measure=>simp [intOf];omega
   | false=>
    rw [hw] at C6
    have hE:wordE s i=e:=HE3.out.symm.trans (runE_stop (by rw [hw];simp))
    have h:=H.out
    rw [hE] at h
    repeat any_goals (first|(go_at_call 23;with_reducible refine (C6.out _).mono ?_;rintro e w4 ⟨rfl,hw4⟩;rw [hw4])|(at_builtin;refine wpList_append_own _ rfl (.tmp 98) (.tmp 104) 44 rfl w.heap.size 58 iT (.agg #[.int .i64 0,.string ⟨#[]⟩]) 2 24 Tryd.underlying44 hiT htT0 htT1 htT2 rfl z0g _ l.length (rowTk l) rfl (OW.out.alloc _) _ 1 1 [.int .i64 1,.string (s.extract i e)] rfl rfl news_two one_tok (len_max z0b rfl) z0b z0l ?_;intro v1 w3 own1 hg1 _hi1;have hB1:Below w.heap.size w w3:=(below_alloc hW _).grown hg1 z0l (fun k h=>(OW.out.lt k h).1))|go_skip|go_guarded|go_step|go_upon|(dsimp only []))
    exact spX_of (e) f' (l ++ [(1,s.extract i e)]) rfl rfl rfl h z0n hB1 z0b
  ·have j1:¬ (e:Int) < (s.size:Int):=by omega
   have hE:wordE s i=e:=HE3.out.symm.trans (runE_stop z0b)
   have h:=H.out
   rw [hE] at h
   repeat any_goals (first|(at_builtin;refine wpList_append_own _ rfl (.tmp 98) (.tmp 104) 44 rfl w.heap.size 58 iT (.agg #[.int .i64 0,.string ⟨#[]⟩]) 2 24 Tryd.underlying44 hiT htT0 htT1 htT2 rfl z0g _ l.length (rowTk l) rfl (OW.out.alloc _) _ 1 1 [.int .i64 1,.string (s.extract i e)] rfl rfl news_two one_tok (len_max z0b rfl) z0b z0l ?_;intro v1 w3 own1 hg1 _hi1;have hB1:Below w.heap.size w w3:=(below_alloc hW _).grown hg1 z0l (fun k h=>(OW.out.lt k h).1))|go_skip|go_guarded|go_step|go_upon|(dsimp only []))
   exact spX_of (e) f' (l ++ [(1,s.extract i e)]) rfl rfl rfl h z0n hB1 z0b
theorem sp_dig (s:ByteArray) (F:Nat) (w wr:World) (u:Nat→Value) (i f:Nat) (l:List Tok) (hs:s.size≤8192) (TI:Hid (TkI s F i f l)) (OW:Hid (wr.ownsRow w.heap.size 58 2 (u 4) l.length (rowTk l))) (hW:Below w.heap.size w wr) (hi:i < s.size)
  (C:Nat) (HBC:Hid (byteN s i=C)) (hb:blankN C=false) (hr:remN s i=false) (hc:letterN C=false) (hd:digitN C=true) (Q0:Exit→Act→World→Prop) (hret:∀ (A:Array Value) (wq:World),A.size=194→A.getD 2 undef=.slice none 0 0→A.getD 3 undef=.bool false→tokN s F 0=none→Below w.heap.size w wq→Q0 .ret ⟨A,[]⟩ wq) :
  Code.wp Tryd.prog spBody (Exit.then (SpX s F w (s.size - i)) Q0) ⟨#[.string s,u 1,u 2,u 3,u 4,.int .i64 (i:Nat),u 6,u 7,u 8,u 9,u 10,u 11,u 12,u 13,u 14,u 15,u 16,u 17,u 18,u 19,u 20,u 21,u 22,u 23,u 24,u 25,u 26,u 27,u 28,u 29,u 30,u 31,u 32,u 33,u 34,u 35,u 36,u 37,u 38,u 39,u 40,u 41,u 42,u 43,u 44,u 45,u 46,u 47,u 48,u 49,u 50,u 51,u 52,u 53,u 54,u 55,u 56,u 57,u 58,u 59,u 60,u 61,u 62,u 63,u 64,u 65,u 66,u 67,u 68,u 69,u 70,u 71,u 72,u 73,u 74,u 75,u 76,u 77,u 78,u 79,u 80,u 81,u 82,u 83,u 84,u 85,u 86,u 87,u 88,u 89,u 90,u 91,u 92,u 93,u 94,u 95,u 96,u 97,u 98,u 99,u 100,u 101,u 102,u 103,u 104,u 105,u 106,u 107,u 108,u 109,u 110,u 111,u 112,u 113,u 114,u 115,u 116,u 117,u 118,u 119,u 120,u 121,u 122,u 123,u 124,u 125,u 126,u 127,u 128,u 129,u 130,u 131,u 132,u 133,u 134,u 135,u 136,u 137,u 138,u 139,u 140,u 141,u 142,u 143,u 144,u 145,u 146,u 147,u 148,u 149,u 150,u 151,u 152,u 153,u 154,u 155,u 156,u 157,u 158,u 159,u 160,u 161,u 162,u 163,u 164,u 165,u 166,u 167,u 168,u 169,u 170,u 171,u 172,u 173,u 174,u 175,u 176,u 177,u 178,u 179,u 180,u 181,u 182,u 183,u 184,u 185,u 186,u 187,u 188,u 189,u 190,u 191,u 192,u 193],[]⟩ wr:=by
 conv=>arg 2;whnf
 have i1:(i:Int) < (s.size:Int):=by omega
 have i2:(0:Int)≤(i:Int):=by omega
 have i5:(i:Int).toNat=i:=rfl
 have hC:((s[i]'hi).toNat:Int)=(C:Int):=by rw [← byteN_at s i hi,HBC.out]
 have hle:=TI.out.le
 have hln:=TI.out.ln
 have hb0:C≠32∧C≠9∧C≠10∧C≠13:=by simpa [blankN] using hb
 have e0:((C:Int) == 32)=false:=beq_false_of_ne z0b
 have e1:((C:Int) == 9)=false:=beq_false_of_ne z0b
 have e2:((C:Int) == 10)=false:=beq_false_of_ne z0b
 have e3:((C:Int) == 13)=false:=beq_false_of_ne z0b
 have HB2:=Lib.hid (show blankN (byteN s i)=false from by rw [HBC.out];exact hb)
 have hC2:C < 256:=by have:=byteN_lt s i;rw [HBC.out] at this;exact this
 clear hb
 obtain ⟨iT,hiT,htT0,htT1,htT2⟩:=info_parts infoTok
 have hd2:48≤C∧C≤57:=by simpa [digitN] using hd
 have e4:((C:Int) == 47)=false:=beq_false_of_ne z0b
 have e5:(48:Int)≤(C:Int):=by omega
 have e6:(C:Int)≤57:=by omega
 have HRM:=Lib.hid hr
 have HLC:=Lib.hid (show letterN (byteN s i)=false from by rw [HBC.out];exact hc)
 have HDC:=Lib.hid (show digitN (byteN s i)=true from by rw [HBC.out];exact hd)
 have C5:=Lib.hid (RName_any (s.extract i (i+1)) (ext_max hs z0b) wr)
 rw [named_one hi,HBC.out,hc] at C5
 clear hr hc hd
 repeat any_goals (first|(go_at_call 23;with_reducible refine (C5.out).mono ?_;rintro e w4 ⟨rfl,hw4⟩;rw [hw4])|go_skip|go_guarded|go_step|go_upon|(dsimp only []))
 go_loopw [7] (fun ev wq=>∃ e:Nat,ev=.int .i64 e∧i+1≤e∧e≤s.size∧runE (fun j=>digitN (byteN s j)) s.size e=digE s i∧wr=wq) (fun ev _=>s.size - (intOf ev).toNat)
 case atStart=>exact ⟨i+1,rfl,Nat.le_refl _,by omega,rfl,rfl⟩
 case round=>
  obtain ⟨e,rfl,he1,he2,he3,he4⟩:=hrel
  subst he4
  have HE3:=Lib.hid he3
  clear he3
  have j2:(0:Int)≤(e:Int):=by omega
  have j5:(e:Int).toNat=e:=rfl
  have j6:(i:Int)≤(e:Int):=by omega
  have j7:(e:Int)≤(s.size:Int):=by omega
  by_cases hen:e < s.size
  ·have j1:(e:Int) < (s.size:Int):=by omega
   obtain ⟨D,hD⟩:∃ D:Nat,(s[e]'hen).toNat=D:=⟨_,rfl⟩
   have HBD:=Lib.hid (show byteN s e=D by rw [byteN_at s e hen];exact hD)
   by_cases d1:48≤D
   ·have b1:(48:Int)≤(D:Int):=by omega
    by_cases d2:D≤57
    ·have b2:(D:Int)≤57:=by omega
     repeat any_goals (first|go_skip|go_guarded|go_step|go_upon|(simp only [];done))
     go_roundw
     case rel=>exact ⟨e+1,rfl,by omega,by omega,(runE_step hen (by rw [HBD.out];simp [digitN,d1,d2])).symm.trans HE3.out,by trivial⟩
     case measure=>simp [intOf];omega
    ·have b2:¬ (D:Int)≤57:=by omega
     have hE:digE s i=e:=HE3.out.symm.trans (runE_stop (by rw [HBD.out];simp [digitN,d2]))
     exact z22zk1
   ·have b1:¬ (48:Int)≤(D:Int):=by omega
    have hE:digE s i=e:=HE3.out.symm.trans (runE_stop (by rw [HBD.out];simp [digitN,d1]))
    exact z22zk1
  ·have j1:¬ (e:Int) < (s.size:Int):=by omega
   have hE:digE s i=e:=HE3.out.symm.trans (runE_stop z0b)
   exact z22zk1
theorem sp_quo (s:ByteArray) (F:Nat) (w wr:World) (u:Nat→Value) (i f:Nat) (l:List Tok) (hs:s.size≤8192) (TI:Hid (TkI s F i f l)) (OW:Hid (wr.ownsRow w.heap.size 58 2 (u 4) l.length (rowTk l))) (hW:Below w.heap.size w wr) (hi:i < s.size)
  (C:Nat) (HBC:Hid (byteN s i=C)) (hb:blankN C=false) (hc34:C=34) (Q0:Exit→Act→World→Prop) (hret:∀ (A:Array Value) (wq:World),A.size=194→A.getD 2 undef=.slice none 0 0→A.getD 3 undef=.bool false→tokN s F 0=none→Below w.heap.size w wq→Q0 .ret ⟨A,[]⟩ wq) :
  Code.wp Tryd.prog spBody (Exit.then (SpX s F w (s.size - i)) Q0) ⟨#[.string s,u 1,u 2,u 3,u 4,.int .i64 (i:Nat),u 6,u 7,u 8,u 9,u 10,u 11,u 12,u 13,u 14,u 15,u 16,u 17,u 18,u 19,u 20,u 21,u 22,u 23,u 24,u 25,u 26,u 27,u 28,u 29,u 30,u 31,u 32,u 33,u 34,u 35,u 36,u 37,u 38,u 39,u 40,u 41,u 42,u 43,u 44,u 45,u 46,u 47,u 48,u 49,u 50,u 51,u 52,u 53,u 54,u 55,u 56,u 57,u 58,u 59,u 60,u 61,u 62,u 63,u 64,u 65,u 66,u 67,u 68,u 69,u 70,u 71,u 72,u 73,u 74,u 75,u 76,u 77,u 78,u 79,u 80,u 81,u 82,u 83,u 84,u 85,u 86,u 87,u 88,u 89,u 90,u 91,u 92,u 93,u 94,u 95,u 96,u 97,u 98,u 99,u 100,u 101,u 102,u 103,u 104,u 105,u 106,u 107,u 108,u 109,u 110,u 111,u 112,u 113,u 114,u 115,u 116,u 117,u 118,u 119,u 120,u 121,u 122,u 123,u 124,u 125,u 126,u 127,u 128,u 129,u 130,u 131,u 132,u 133,u 134,u 135,u 136,u 137,u 138,u 139,u 140,u 141,u 142,u 143,u 144,u 145,u 146,u 147,u 148,u 149,u 150,u 151,u 152,u 153,u 154,u 155,u 156,u 157,u 158,u 159,u 160,u 161,u 162,u 163,u 164,u 165,u 166,u 167,u 168,u 169,u 170,u 171,u 172,u 173,u 174,u 175,u 176,u 177,u 178,u 179,u 180,u 181,u 182,u 183,u 184,u 185,u 186,u 187,u 188,u 189,u 190,u 191,u 192,u 193],[]⟩ wr:=by
 conv=>arg 2;whnf
 have i1:(i:Int) < (s.size:Int):=by omega
 have i2:(0:Int)≤(i:Int):=by omega
 have i5:(i:Int).toNat=i:=rfl
 have hC:((s[i]'hi).toNat:Int)=(C:Int):=by rw [← byteN_at s i hi,HBC.out]
 have hle:=TI.out.le
 have hln:=TI.out.ln
 have hb0:C≠32∧C≠9∧C≠10∧C≠13:=by simpa [blankN] using hb
 have e0:((C:Int) == 32)=false:=beq_false_of_ne z0b
 have e1:((C:Int) == 9)=false:=beq_false_of_ne z0b
 have e2:((C:Int) == 10)=false:=beq_false_of_ne z0b
 have e3:((C:Int) == 13)=false:=beq_false_of_ne z0b
 have HB2:=Lib.hid (show blankN (byteN s i)=false from by rw [HBC.out];exact hb)
 have hC2:C < 256:=by have:=byteN_lt s i;rw [HBC.out] at this;exact this
 clear hb
 obtain ⟨iT,hiT,htT0,htT1,htT2⟩:=info_parts infoTok
 have hc:letterN C=false:=by rw [hc34];decide
 have hd:digitN C=false:=by rw [hc34];decide
 have hr:remN s i=false:=by unfold remN;rw [HBC.out,hc34];rfl
 have e4:((C:Int) == 47)=false:=beq_false_of_ne z0b
 have e5:¬ (48:Int)≤(C:Int):=by omega
 have e6:((C:Int) == 34)=true:=by simp [hc34]
 have HRM:=Lib.hid hr
 have HLC:=Lib.hid (show letterN (byteN s i)=false from by rw [HBC.out];exact hc)
 have HDC:=Lib.hid (show digitN (byteN s i)=false from by rw [HBC.out];exact hd)
 have HQ:=Lib.hid (show byteN s i=34 from by rw [HBC.out];exact hc34)
 have C5:=Lib.hid (RName_any (s.extract i (i+1)) (ext_max hs z0b) wr)
 rw [named_one hi,HBC.out,hc] at C5
 clear hr hc hd
 repeat any_goals (first|(go_at_call 23;with_reducible refine (C5.out).mono ?_;rintro e w4 ⟨rfl,hw4⟩;rw [hw4])|go_skip|go_guarded|go_step|go_upon|(dsimp only []))
 go_loopw [7] (fun ev wq=>∃ e:Nat,ev=.int .i64 e∧i+1≤e∧e≤s.size∧runE (fun j => !decide (byteN s j=34)) s.size e=quoE s i∧wr=wq) (fun ev _=>s.size - (intOf ev).toNat)
 case atStart=>exact ⟨i+1,rfl,Nat.le_refl _,by omega,rfl,rfl⟩
 case round=>
  obtain ⟨e,rfl,he1,he2,he3,he4⟩:=hrel
  subst he4
  have HE3:=Lib.hid he3
  clear he3
  have j2:(0:Int)≤(e:Int):=by omega
  have j5:(e:Int).toNat=e:=rfl
  have j6:(i:Int)+1≤(e:Int):=by omega
  have j7:(e:Int)≤(s.size:Int):=by omega
  by_cases hen:e < s.size
  ·have j1:(e:Int) < (s.size:Int):=by omega
   have j8:((e:Int) == (s.size:Int))=false:=beq_false_of_ne z0b
   obtain ⟨D,hD⟩:∃ D:Nat,(s[e]'hen).toNat=D:=⟨_,rfl⟩
   have HBD:=Lib.hid (show byteN s e=D by rw [byteN_at s e hen];exact hD)
   by_cases d1:D=34
   ·have b1:((D:Int) != 34)=false:=by simp [d1]
    have hE:quoE s i=e:=HE3.out.symm.trans (runE_stop (by rw [HBD.out,d1];simp))
    have C6:=Lib.hid fun wx=>RName_any (s.extract (i+1) e) (ext_max hs z0b) wx
    cases hn:named (s.extract (i+1) e) with
    | false=>
     rw [hn] at C6
     repeat any_goals (first|(go_at_call 23;with_reducible refine (C6.out _).mono ?_;rintro e w4 ⟨rfl,hw4⟩;rw [hw4])|go_skip|go_guarded|go_step|go_upon|(dsimp only []))
     exact hret _ _ rfl rfl rfl (TI.out.quoN hi HB2.out HRM.out HLC.out HDC.out HQ.out (by rw [hE];exact .inr hn)) hW
    | true=>
     rw [hn] at C6
     obtain ⟨f',h⟩:=TI.out.quo hi HB2.out HRM.out HLC.out HDC.out HQ.out (by rw [hE,hn];simp;omega)
     rw [hE] at h
     repeat any_goals (first|(go_at_call 23;with_reducible refine (C6.out _).mono ?_;rintro e w4 ⟨rfl,hw4⟩;rw [hw4])|(at_builtin;refine wpList_append_own _ rfl (.tmp 181) (.tmp 188) 44 rfl w.heap.size 58 iT (.agg #[.int .i64 0,.string ⟨#[]⟩]) 2 24 Tryd.underlying44 hiT htT0 htT1 htT2 rfl z0g _ l.length (rowTk l) rfl (OW.out.alloc _) _ 1 1 [.int .i64 3,.string (s.extract (i+1) e)] rfl rfl news_two one_tok (len_max z0b rfl) z0b z0l ?_;intro v1 w3 own1 hg1 _hi1;have hB1:Below w.heap.size w w3:=(below_alloc hW _).grown hg1 z0l (fun k h=>(OW.out.lt k h).1))|go_skip|go_guarded|go_step|go_upon|(dsimp only []))
     exact spX_of (e+1) f' (l ++ [(3,s.extract (i+1) e)]) rfl rfl rfl h z0n hB1 z0b
   ·have b1:((D:Int) != 34)=true:=by simp;omega
    repeat any_goals (first|go_skip|go_guarded|go_step|go_upon|(simp only [];done))
    go_roundw
    case rel=>exact ⟨e+1,rfl,by omega,by omega,(runE_step hen (by rw [HBD.out];simp [d1])).symm.trans HE3.out,by trivial⟩
    case measure=>simp [intOf];omega
  ·have j1:¬ (e:Int) < (s.size:Int):=by omega
   have hes:e=s.size:=by omega
   have j8:((e:Int) == (s.size:Int))=true:=by simp [hes]
   have hE:quoE s i=e:=HE3.out.symm.trans (runE_stop z0b)
   repeat any_goals (first|go_skip|go_guarded|go_step|go_upon|(simp only [];done))
   exact hret _ _ rfl rfl rfl (TI.out.quoN hi HB2.out HRM.out HLC.out HDC.out HQ.out (.inl (hE.trans hes))) hW
end Go.Proofs.YtfondldmmcmloaaDoor
