/- AnP. -/
import Derived.Test.YtfondldmmcmloaaGreatDoorPb37
import Derived.Test.YtfondldmmcmloaaGreatDoorPbB2
set_option maxRecDepth 1000000
set_option maxHeartbeats 8000000
namespace Go.Proofs.YtfondldmmcmloaaGreatDoor
open Go.RowKit
theorem some_agg {p:Nat→Bool} {aL:Option Addr} {n cL m:Nat} {kids:Nat→VT} {aK:Option Addr} {cK:Nat} {keys:Nat→ByteArray} (h:cntN p n=m) :
  (someT p aL n cL kids aK cK keys).agg=.agg #[.int .i64 8,.bool false,.int .u64 0,.int .u64 0,.int .u64 0,.int .u64 0,.int .u64 0,.string ⟨#[]⟩,.slice aL m cL,.slice aK m cK]:=by
 subst h
 rfl
theorem PvalidParts_any (a:Option Addr) (n c:Nat) (M:Nat→PM) (T:VT) (wh:Int) (w:World) (hL:PL w a n c M) (hin:T.In w) (_h1 : -9223372036854775808≤wh) (_h2:wh < 9223372036854775808) (hU:U8T w) (hT:Tab w) :
  Calls Tryz.prog 5 #[.slice a n c,T.agg,.int .i64 wh] w fun e w'=>e=.returned (.bool true)∧Below w.heap.size w w':=by
 have CT:Hid (∀ wr:World,Below w.heap.size w wr→Calls Tryz.prog 8 #[] wr fun e w'=>e=.returned (.bool true)∧Below wr.heap.size wr w'):=Lib.hid fun wr hx=>told23_any wr (Utf8Tabs_below hU hx) (hT.below hx)
 have C1:=Lib.hid fun wr (hx:Below w.heap.size w wr)=>PFew_any a n c M wr (hL.below hx)
 have C2:=Lib.hid fun wr (hx:Below w.heap.size w wr)=>Few_any T wr (VT.In.below hx _ hin)
 have hnodes:decide (T.few 40≤400)=true→T.nodes < 4611686018427387904:=fun h=>by
  have h:=of_decide_eq_true h
  have:=(VT.few_nodes _ 40 h).1
  omega
 have C3:Hid (fewP M n=true→decide (T.few 40≤400)=true→∀ wr:World,Below w.heap.size w wr→Calls Tryz.prog 15 #[T.agg] wr fun e w'=>e=.returned (.int .i64 T.may)∧Below wr.heap.size wr w'):=Lib.hid fun _ h wr hx=>RMayV_any T wr (VT.In.below hx _ hin) (hnodes h)
 cases T with
 | nil=>exact hin.elim
 | mk kind neg V bits text aL nL cL kids aK nK cK keys=>
  by_cases hout:fewP M n=false∨decide ((VT.mk kind neg V bits text aL nL cL kids aK nK cK keys).few 40≤400)=false∨¬ kind=8∨¬ (VT.mk kind neg V bits text aL nL cL kids aK nK cK keys).may=0∨nK=0
  ·exact Parts_out a n c kind neg V bits text aL nL cL aK nK cK wh _ _ _ hout w C1 C2 C3 CT
  ·simp only [not_or,Bool.not_eq_false,Decidable.not_not] at hout
   obtain ⟨f1,f2,rfl,hmay,hn0⟩:=hout
   rw [f1] at C1
   rw [f2] at C2
   have C3:Hid (∀ wr:World,Below w.heap.size w wr→Calls Tryz.prog 15 #[(VT.mk 8 neg V bits text aL nL cL kids aK nK cK keys).agg] wr fun e w'=>e=.returned (.int .i64 0)∧Below wr.heap.size wr w'):=Lib.hid fun wr hx=>by
    have h:=C3.out f1 f2 wr hx
    rwa [hmay] at h
   obtain ⟨-,-,hlong,hright⟩:=may_right hmay
   obtain ⟨rfl,-,-⟩:=map_right hright
   obtain ⟨⟨h1000,-,-⟩,-,-⟩:=long_parts.1 hlong
   have hin2:=hin
   obtain ⟨own,hLc,hI,hKc⟩:=hin2
   rcases hLc with h0|⟨bL,oL,rfl,hbL,hLc⟩
   ·exact absurd h0 hn0
   rcases hKc with h0|⟨bK,oK,rfl,hbK,hKc⟩
   ·exact absurd h0 hn0
   have hsmall:∀ {U:VT},U.may=0→U.nodes < 4611686018427387904:=fun h=>by have:=(may_right h).2.1;omega
   have CV:∀ (U:VT) (wr:World),Below w.heap.size w wr→U.In wr→U.may=0→Calls Tryz.prog 11 #[.slice a n c,U.agg] wr fun e w'=>e=.returned (.bool (validB M n U))∧Below wr.heap.size wr w':=fun U wr hx hi hm=>PValidM_any M a n c U wr (hL.below hx) hi (Utf8Tabs_below hU hx) (hT.below hx) (hsmall hm)
   refine Parts_go M a n c neg V bits text bL oL cL bK oK nK cK kids keys wh (validB M n (.mk 8 neg V bits text (some ⟨bL,oL,none⟩) nK cL kids (some ⟨bK,oK,none⟩) nK cK keys)) w z0c h1000 own.l own.n own.lc own.nc hbL hbK (so_all hmay z0c) C1 C2 C3 hLc hKc hI (Lib.hid fun i hi wr hx=>?_) (Lib.hid fun wr hx=>CV _ wr hx (VT.In.below hx _ hin) hmay) (Lib.hid fun hP k hk wr gl cl gk ck hx hi=>?_) CT
   ·have hc:=(one_sel hi).1
    have hs:=(one_sel hi).2
    have hm:=some_may hmay (fun j=>j == i) (some ⟨bL,oL+i * 10,none⟩) (cL - i) (some ⟨bK,oK+i,none⟩) (cK - i)
    have h:=CV (someT (fun j=>j == i) (some ⟨bL,oL+i * 10,none⟩) nK (cL - i) kids (some ⟨bK,oK+i,none⟩) (cK - i) keys) wr hx ?_ hm
    ·rw [some_agg hc,valid_one hmay hi] at h
     exact h
    ·have o1:=own.l
     have o2:=own.lc
     have o3:=own.n
     have o4:=own.nc
     unfold someT
     refine ⟨⟨by decide,by decide,by decide,by decide,Nat.zero_le _,by rw [hc];omega,by omega,by rw [hc];omega,by omega⟩,.inr ⟨bL,oL+i * 10,rfl,Nat.lt_of_lt_of_le hbL hx.size,fun j hj q hq=>?_⟩,fun j hj=>VT.In.below hx _ (hI _ (sel_spec hj).1),.inr ⟨bK,oK+i,rfl,Nat.lt_of_lt_of_le hbK hx.size,fun j hj=>?_⟩⟩
     ·obtain rfl:j=0:=by rw [hc] at hj;omega
      show wr.cell? ⟨bL,oL+i * 10+0 * 10+q,none⟩=(kids (selI (fun j=>j == i) nK 0)).cells[q]?
      rw [hs,Nat.zero_mul,Nat.add_zero,hx.cell (p:=⟨bL,oL+i * 10+q,none⟩) hbL]
      exact hLc i hi q hq
     ·obtain rfl:j=0:=by rw [hc] at hj;omega
      show wr.cell? ⟨bK,oK+i+0,none⟩=some (.string (keys (selI (fun j=>j == i) nK 0)))∧(keys (selI (fun j=>j == i) nK 0)).size≤maxLen
      rw [hs,Nat.add_zero,hx.cell (p:=⟨bK,oK+i,none⟩) hbK]
      exact hKc i hi
   ·have hc:=(but_sel hk).1
    have h:=CV _ wr hx hi (some_may hmay (fun j=>j != k) (some ⟨gl,0,none⟩) cl (some ⟨gk,0,none⟩) ck)
    rw [some_agg (hc.trans (show nK - 1=k+(nK - (k+1)) by omega)),valid_but hmay _ _ _ _ _ hP] at h
    exact h
end Go.Proofs.YtfondldmmcmloaaGreatDoor
