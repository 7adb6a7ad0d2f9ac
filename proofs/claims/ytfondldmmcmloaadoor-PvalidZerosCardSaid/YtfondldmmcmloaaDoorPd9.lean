/- PC. -/
import Derived.Maps.Own
import Derived.Test.YtfondldmmcmloaaDoorPd8
set_option maxRecDepth 1000000
set_option maxHeartbeats 8000000
namespace Go.Proofs.YtfondldmmcmloaaDoor
open Go Go.RowKit
theorem z9zk1 {p:Prop} (h:p:=by
 cases x4 with
 | true=>
  have e:D=true:=by rw [hD2];simp [*]
  clear hD2
  subst e
  repeat any_goals (first|(go_at_call 23;with_reducible refine (C1.out _).mono ?_;rintro e w3 ⟨rfl,rfl⟩)|(go_at_call 27;with_reducible refine (C2.out _).mono ?_;rintro e w4 ⟨rfl,hb4⟩;have Mq:=Lib.hid (M2.out.below hb4);have Fq:=Lib.hid (F2.out.below hb4);obtain ⟨_,_,_,_⟩:=Mq.out.all;obtain ⟨_,_,_,_,_,_⟩:=Fq.out.all;have Xq:=Lib.hid (below_trans X2.out hb4))|(go_at_call 28;with_reducible refine (C3.out _ Xq.out).mono ?_;rintro e w5 ⟨rfl,rfl⟩)|(go_at_call 43;with_reducible refine (C4.out _ X2.out).mono ?_;rintro e w6 ⟨rfl,rfl⟩)|(go_at_call 24;with_reducible refine (C5.out _ X2.out).mono ?_;rintro e w7 ⟨rfl,rfl⟩)|go_skip|go_guarded|go_step|go_upon|(dsimp only []))
  go_meet
  case rel=>exact ⟨rfl,rfl⟩
 | false=>
  by_cases cz:0≤z5
  ·skip
   have e:D=true:=by rw [hD2];simp [*]
   clear hD2
   subst e
   repeat any_goals (first|(go_at_call 23;with_reducible refine (C1.out _).mono ?_;rintro e w3 ⟨rfl,rfl⟩)|(go_at_call 27;with_reducible refine (C2.out _).mono ?_;rintro e w4 ⟨rfl,hb4⟩;have Mq:=Lib.hid (M2.out.below hb4);have Fq:=Lib.hid (F2.out.below hb4);obtain ⟨_,_,_,_⟩:=Mq.out.all;obtain ⟨_,_,_,_,_,_⟩:=Fq.out.all;have Xq:=Lib.hid (below_trans X2.out hb4))|(go_at_call 28;with_reducible refine (C3.out _ Xq.out).mono ?_;rintro e w5 ⟨rfl,rfl⟩)|(go_at_call 43;with_reducible refine (C4.out _ X2.out).mono ?_;rintro e w6 ⟨rfl,rfl⟩)|(go_at_call 24;with_reducible refine (C5.out _ X2.out).mono ?_;rintro e w7 ⟨rfl,rfl⟩)|go_skip|go_guarded|go_step|go_upon|(dsimp only []))
   go_meet
   case rel=>exact ⟨rfl,rfl⟩
  ·skip
   have e:D=false:=by rw [hD2];simp [*]
   clear hD2
   subst e
   repeat any_goals (first|(go_at_call 23;with_reducible refine (C1.out _).mono ?_;rintro e w3 ⟨rfl,rfl⟩)|(go_at_call 27;with_reducible refine (C2.out _).mono ?_;rintro e w4 ⟨rfl,hb4⟩;have Mq:=Lib.hid (M2.out.below hb4);have Fq:=Lib.hid (F2.out.below hb4);obtain ⟨_,_,_,_⟩:=Mq.out.all;obtain ⟨_,_,_,_,_,_⟩:=Fq.out.all;have Xq:=Lib.hid (below_trans X2.out hb4))|(go_at_call 28;with_reducible refine (C3.out _ Xq.out).mono ?_;rintro e w5 ⟨rfl,rfl⟩)|(go_at_call 43;with_reducible refine (C4.out _ X2.out).mono ?_;rintro e w6 ⟨rfl,rfl⟩)|(go_at_call 24;with_reducible refine (C5.out _ X2.out).mono ?_;rintro e w7 ⟨rfl,rfl⟩)|go_skip|go_guarded|go_step|go_upon|(dsimp only []))
   go_meet
   case rel=>exact ⟨rfl,rfl⟩):p:=h
theorem z9zk2 {p:Prop} (h:p:=by
 have e:D=true:=by rw [hD2];simp [*]
 clear hD2
 subst e
 repeat any_goals (first|(go_at_call 23;with_reducible refine (C1.out _).mono ?_;rintro e w3 ⟨rfl,rfl⟩)|(go_at_call 27;with_reducible refine (C2.out _).mono ?_;rintro e w4 ⟨rfl,hb4⟩;have Mq:=Lib.hid (M2.out.below hb4);have Fq:=Lib.hid (F2.out.below hb4);obtain ⟨_,_,_,_⟩:=Mq.out.all;obtain ⟨_,_,_,_,_,_⟩:=Fq.out.all;have Xq:=Lib.hid (below_trans X2.out hb4))|(go_at_call 28;with_reducible refine (C3.out _ Xq.out).mono ?_;rintro e w5 ⟨rfl,rfl⟩)|(go_at_call 43;with_reducible refine (C4.out _ X2.out).mono ?_;rintro e w6 ⟨rfl,rfl⟩)|(go_at_call 24;with_reducible refine (C5.out _ X2.out).mono ?_;rintro e w7 ⟨rfl,rfl⟩)|go_skip|go_guarded|go_step|go_upon|(dsimp only []))
 go_meet
 case rel=>exact ⟨rfl,rfl⟩):p:=h
theorem z9zk3 {p:Prop} (h:p:=by
 clear hA2
 subst e
 repeat any_goals (first|(go_at_call 23;with_reducible refine (C1.out _).mono ?_;rintro e w3 ⟨rfl,rfl⟩)|(go_at_call 27;with_reducible refine (C2.out _).mono ?_;rintro e w4 ⟨rfl,hb4⟩;have Mq:=Lib.hid (M1.out.below hb4);have Fq:=Lib.hid (F1.out.below hb4);obtain ⟨_,_,_,_⟩:=Mq.out.all;obtain ⟨_,_,_,_,_,_⟩:=Fq.out.all;have Xq:=Lib.hid (below_trans X1.out hb4))|(go_at_call 28;with_reducible refine (C3.out _ Xq.out).mono ?_;rintro e w5 ⟨rfl,rfl⟩)|(go_at_call 43;with_reducible refine (C4.out _ X1.out).mono ?_;rintro e w6 ⟨rfl,rfl⟩)|(go_at_call 24;with_reducible refine (C5.out _ X1.out).mono ?_;rintro e w7 ⟨rfl,rfl⟩)|go_skip|go_guarded|go_step|go_upon|(dsimp only []))
 go_meet
 case rel=>exact ⟨rfl,by (first|exact below_trans hq0 hb4|exact hq0)⟩):p:=h
theorem z9zk4 {p:Prop} (h:p:=by
 go_region
 all_goals (repeat any_goals (first|go_skip|go_guarded|go_step|go_upon|(simp only [];done)))
 have hb:fldBad M n m k=true:=by rw [HBAD.out,← HC.out,E6.out,anyN_of (p:=fun q=>eqS (m.F q).name nm || ((m.F q).number == nu)) hbd.out hjk];rfl
 exact bodyPost_ret (v:=.bool false) (by simp [results,Tryd.results29,go_sem]) rfl ⟨by unfold fieldsB;rw [anyN_of hb hkn];rfl,below_drew X3.out⟩):p:=h
theorem z9zk5 {p:Prop} (h:p:=by
 have hb:fldBad M n m k=true:=by rw [HBAD.out];rfl
 repeat any_goals (first|go_skip|go_guarded|go_step|go_upon|(simp only [];done))
 exact bodyPost_ret (v:=.bool false) (by simp [results,Tryd.results29,go_sem]) rfl ⟨by unfold fieldsB;rw [anyN_of hb hkn];rfl,X2.out⟩):p:=h
end Go.Proofs.YtfondldmmcmloaaDoor
namespace Go.Proofs.YtfondldmmcmloaaDoor
open Go.RowKit
theorem below_drew {w w1:World} (h:Below w.heap.size w w1):Below w.heap.size w w1.drew:=Below.drew h
def numBad (z:Int):Bool:=decide (z < 1) || decide (536870911 < z)
def fldA (M:Nat→PM) (n:Nat) (f:PF):Bool:=
 !named f.name || (decide (f.number < 1) || (decide (536870911 < f.number) || (decide (19000≤f.number) && decide (f.number≤19999) || !scalarB f.type && decide (placeM M n f.type < 0))))
def fldB (m:PM) (f:PF):Bool:=
 f.opt && f.rep || (f.opt && f.map || (f.rep && f.map || (anyN (fun j=>m.N j == f.number) m.nN || anyN (fun j=>eqS (m.S j) f.name) m.nS)))
def fldC (m:PM) (i:Nat):Bool:=anyN (fun k=>eqS (m.F k).name (m.F i).name || ((m.F k).number == (m.F i).number)) i
def fldBad (M:Nat→PM) (n:Nat) (m:PM) (i:Nat):Bool:=fldA M n (m.F i) || (fldB m (m.F i) || fldC m i)
def fieldsB (M:Nat→PM) (n:Nat) (m:PM):Bool:=!anyN (fldBad M n m) m.nF
structure MBx (w:World) (B:Nat) (m:PM):Prop where
 all:w.cell? ⟨B,0,none⟩=some (.string m.name)∧w.cell? ⟨B,1,none⟩=some (.slice m.aF m.nF m.cF)∧w.cell? ⟨B,2,none⟩=some (.slice m.aN m.nN m.cN)∧w.cell? ⟨B,3,none⟩=some (.slice m.aS m.nS m.cS)
theorem MBx.below {w w1:World} {B:Nat} {m:PM} (h:MBx w B m) (hb:Below w.heap.size w w1):MBx w1 B m:=by
 obtain ⟨h0,h1,h2,h3⟩:=h.all
 exact ⟨keep_cell hb h0,keep_cell hb h1,keep_cell hb h2,keep_cell hb h3⟩
theorem mbx_new (w:World) (m:PM) (t:TypeId):MBx (w.alloc (.cells #[.string m.name,.slice m.aF m.nF m.cF,.slice m.aN m.nN m.cN,.slice m.aS m.nS m.cS] t)) w.heap.size m:=⟨by simp [go_sem]⟩
structure FBx (w:World) (B:Nat) (nm ty:ByteArray) (nu:Int) (op re ma:Bool):Prop where
 all:w.cell? ⟨B,0,none⟩=some (.string nm)∧w.cell? ⟨B,1,none⟩=some (.string ty)∧w.cell? ⟨B,2,none⟩=some (.int .i64 nu)∧w.cell? ⟨B,3,none⟩=some (.bool op)∧w.cell? ⟨B,4,none⟩=some (.bool re)∧w.cell? ⟨B,5,none⟩=some (.bool ma)
theorem FBx.below {w w1:World} {B:Nat} {nm ty:ByteArray} {nu:Int} {op re ma:Bool} (h:FBx w B nm ty nu op re ma) (hb:Below w.heap.size w w1):FBx w1 B nm ty nu op re ma:=by
 obtain ⟨h0,h1,h2,h3,h4,h5⟩:=h.all
 exact ⟨keep_cell hb h0,keep_cell hb h1,keep_cell hb h2,keep_cell hb h3,keep_cell hb h4,keep_cell hb h5⟩
theorem fbx_new (w:World) (nm ty:ByteArray) (nu:Int) (op re ma:Bool) (t:TypeId):FBx (w.alloc (.cells #[.string nm,.string ty,.int .i64 nu,.bool op,.bool re,.bool ma] t)) w.heap.size nm ty nu op re ma:=⟨by simp [go_sem]⟩
/-- **fields** of the document -/
theorem RFields_any (a:Option Addr) (n c:Nat) (M:Nat→PM) (m:PM) (w:World) (h:PL w a n c M) (hm:m.In w) :
  Calls Tryd.prog 29 #[.slice a n c,m.agg] w fun e w'=>e=.returned (.bool (fieldsB M n m))∧Below w.heap.size w w':=by
 have H:=Lib.hid h
 have HM:=Lib.hid hm
 have q1:=hm.f.l
 have q2:=hm.f.lc
 simp only [maxLen] at q2
 unfold PM.agg
 clear h hm
 go_enter Tryd.func29,Tryd.ntmps29
 repeat any_goals (first|go_skip|go_guarded|go_step|go_upon|(simp only [];done))
 have M0:=Lib.hid (mbx_new w m 55)
 have X0:=Lib.hid (below_alloc (Below.refl w.heap.size w) (.cells #[.string m.name,.slice m.aF m.nF m.cF,.slice m.aN m.nN m.cN,.slice m.aS m.nS m.cS] 55))
 generalize w.alloc (.cells #[.string m.name,.slice m.aF m.nF m.cF,.slice m.aN m.nN m.cN,.slice m.aS m.nS m.cS] 55)=w0 at *
 obtain ⟨B,hB⟩:∃ B,B=w.heap.size:=⟨_,rfl⟩
 rw [← hB] at M0 ⊢
 clear hB
 go_loopw [5] (fun i wr=>∃ k:Nat,k≤m.nF∧i=.int .i64 k∧anyN (fldBad M n m) k=false∧Below w0.heap.size w0 wr) (fun i _=>m.nF - (intOf i).toNat)
 case atStart=>exact ⟨0,Nat.zero_le _,rfl,rfl,Below.refl _ _⟩
 case round=>
  obtain ⟨k,hk,rfl,hA,hW⟩:=hrel
  have H1:=Lib.hid hA
  have Mr:=Lib.hid (M0.out.below hW)
  have Xr:=Lib.hid (below_trans X0.out hW)
  obtain ⟨_,_,_,_⟩:=Mr.out.all
  clear hA
  by_cases hkn:k < m.nF
  ·obtain ⟨b,off,e0,hbl,hf,ho⟩:=f_lit HM.out.f hkn Xr.out
   have hbad:fldBad M n m k=(fldA M n (m.F k) || (fldB m (m.F k) || fldC m k)):=rfl
   obtain ⟨fC,hfC⟩:∃ x,fldC m k=x:=⟨_,rfl⟩
   have HC:=Lib.hid hfC
   rw [hfC] at hbad
   have HFk:=Lib.hid (show m.F k=m.F k from rfl)
   obtain ⟨⟨nm,ty,nu,op,re,ma⟩,hf0⟩:∃ f,m.F k=f:=⟨_,rfl⟩
   rw [hf0] at hf ho hbad
   have HF0:=Lib.hid hf0
   obtain ⟨hn1,hn2,hn3,hn4⟩:=ho
   dsimp only at hn1 hn2 hn3 hn4
   obtain ⟨x1,hx1⟩:∃ x,named nm=x:=⟨_,rfl⟩
   obtain ⟨x2,hx2⟩:∃ x,scalarB ty=x:=⟨_,rfl⟩
   obtain ⟨z3,hz3⟩:∃ z,placeM M n ty=z:=⟨_,rfl⟩
   obtain ⟨x4,hx4⟩:∃ x,anyN (fun j=>m.N j == nu) m.nN=x:=⟨_,rfl⟩
   obtain ⟨z5,hz5⟩:∃ z,placeS m.S m.nS nm=z:=⟨_,rfl⟩
   have hz5b:anyN (fun j=>eqS (m.S j) nm) m.nS=decide (0≤z5):=by rw [← hz5];exact (fstN_any m.nS).symm
   have C1:=Lib.hid fun wx=>RName_any nm hn1 wx
   have C2:=Lib.hid fun wx=>RScalar_any ty wx
   have C3:=Lib.hid fun wx (hx:Below w.heap.size w wx)=>RPlace_any a n c M ty wx (H.out.below hx)
   have C4:=Lib.hid fun wx (hx:Below w.heap.size w wx)=>RAmong_any m.aN m.nN m.cN m.N nu wx (HM.out.n.below hx)
   have C5:=Lib.hid fun wx (hx:Below w.heap.size w wx)=>RPlaceS_any m.aS m.nS m.cS m.S nm wx (HM.out.t.below hx)
   rw [hx1] at C1
   rw [hx2] at C2
   rw [hz3] at C3
   rw [hx4] at C4
   rw [hz5] at C5
   have hbad:fldBad M n m k=(!x1 || (decide (nu < 1) || (decide (536870911 < nu) || (decide (19000≤nu) && decide (nu≤19999) || !x2 && decide (z3 < 0)))) || (op && re || (op && ma || (re && ma || (x4 || decide (0≤z5)))) || fC)):=by
    rw [hbad]
    unfold fldA fldB
    dsimp only
    rw [hx1,hx2,hz3,hx4,hz5b]
   clear hx1 hx2 hz3 hx4 hz5 hz5b hn1 hn2 hfC hf0
   obtain ⟨_,_,_,_,_,_⟩:=hf.all
   have HFF:=Lib.hid hf
   have i1:(k:Int) < (m.nF:Int):=by omega
   have i2:(0:Int)≤(k:Int):=by omega
   have i5:(k:Int).toNat=k:=rfl
   go_upto_region 5 with fail
   have F1:=Lib.hid (fbx_new wr nm ty nu op re ma 70)
   have M1:=Lib.hid (Mr.out.below (below_alloc (Below.refl wr.heap.size wr) (.cells #[.string nm,.string ty,.int .i64 nu,.bool op,.bool re,.bool ma] 70)))
   have X1:=Lib.hid (below_alloc Xr.out (.cells #[.string nm,.string ty,.int .i64 nu,.bool op,.bool re,.bool ma] 70))
   have hq0:Below (wr.alloc (.cells #[.string nm,.string ty,.int .i64 nu,.bool op,.bool re,.bool ma] 70)).heap.size (wr.alloc (.cells #[.string nm,.string ty,.int .i64 nu,.bool op,.bool re,.bool ma] 70)) (wr.alloc (.cells #[.string nm,.string ty,.int .i64 nu,.bool op,.bool re,.bool ma] 70)):=Below.refl _ _
   have hW1:Below w0.heap.size w0 (wr.alloc (.cells #[.string nm,.string ty,.int .i64 nu,.bool op,.bool re,.bool ma] 70)):=below_alloc hW _
   have HA2:=HFF
   generalize wr.alloc (.cells #[.string nm,.string ty,.int .i64 nu,.bool op,.bool re,.bool ma] 70)=w1 at *
   obtain ⟨B1,hB1⟩:∃ B,B=wr.heap.size:=⟨_,rfl⟩
   rw [← hB1] at F1 ⊢
   clear hB1 HA2
   obtain ⟨_,_,_,_⟩:=M1.out.all
   obtain ⟨_,_,_,_,_,_⟩:=F1.out.all
   obtain ⟨A,hA⟩:∃ A,A=(!x1 || (decide (nu < 1) || (decide (536870911 < nu) || (decide (19000≤nu) && decide (nu≤19999) || !x2 && decide (z3 < 0))))):=⟨_,rfl⟩
   obtain ⟨D,hD⟩:∃ D,D=(op && re || (op && ma || (re && ma || (x4 || decide (0≤z5))))):=⟨_,rfl⟩
   rw [← hA,← hD] at hbad
   have HA:=Lib.hid hA
   have HD:=Lib.hid hD
   have HBAD:=Lib.hid hbad
   clear hA hD hbad
   go_cut [56] (fun s wx=>s=.bool A∧Below w1.heap.size w1 wx)
   case first=>
    have hA2:=HA.out
    cases x1 with
    | true=>
     by_cases c1:nu < 1
     ·skip
      have e:A=true:=by rw [hA2];simp [*]
      exact z9zk3
     ·skip
      by_cases c2:536870911 < nu
      ·skip
       have e:A=true:=by rw [hA2];simp [*]
       exact z9zk3
      ·skip
       by_cases c3:19000≤nu
       ·skip
        by_cases c4:nu≤19999
        ·skip
         have e:A=true:=by rw [hA2];simp [*]
         exact z9zk3
        ·skip
         cases x2 with
         | true=>
          have e:A=false:=by rw [hA2];simp [*]
          exact z9zk3
         | false=>
          by_cases cz:z3 < 0
          ·skip
           have e:A=true:=by rw [hA2];simp [*]
           exact z9zk3
          ·skip
           have e:A=false:=by rw [hA2];simp [*]
           exact z9zk3
       ·skip
        cases x2 with
        | true=>
         have e:A=false:=by rw [hA2];simp [*]
         exact z9zk3
        | false=>
         by_cases cz:z3 < 0
         ·skip
          have e:A=true:=by rw [hA2];simp [*]
          exact z9zk3
         ·skip
          have e:A=false:=by rw [hA2];simp [*]
          exact z9zk3
    | false=>
     have e:A=true:=by rw [hA2];simp [*]
     exact z9zk3
   case rest=>
    obtain ⟨rfl,hq⟩:=hcut
    obtain ⟨w2,rfl⟩:∃ w2,w2=wc:=⟨_,rfl⟩
    have M2:=Lib.hid (M1.out.below hq)
    have F2:=Lib.hid (F1.out.below hq)
    have X2:=Lib.hid (below_trans X1.out hq)
    have hW2:=below_trans hW1 hq
    obtain ⟨_,_,_,_⟩:=M2.out.all
    obtain ⟨_,_,_,_,_,_⟩:=F2.out.all
    cases A with
    | true=>
     exact z9zk5
    | false=>
     go_upto_region 7 with fail
     go_cut [93] (fun s wx=>s=.bool D∧wx=w2)
     case first=>
      have hD2:=HD.out
      cases op with
      | true=>
       cases re with
       | true=>
        exact z9zk2
       | false=>
        cases ma with
        | true=>
         exact z9zk2
        | false=>
         exact z9zk1
      | false=>
       cases re with
       | true=>
        cases ma with
        | true=>
         exact z9zk2
        | false=>
         exact z9zk1
       | false=>
        exact z9zk1
     case rest=>
      obtain ⟨rfl,hwc⟩:=hcut
      obtain rfl:w2=wc:=hwc.symm
      cases D with
      | true=>
       exact z9zk5
      | false=>
       repeat any_goals (first|go_skip|go_guarded|go_step|go_upon|(simp only [];done))
       go_loopw [7] (fun i wq=>∃ j:Nat,j≤k∧i=.int .i64 j∧anyN (fun q=>eqS (m.F q).name nm || ((m.F q).number == nu)) j=false∧Below w2.heap.size w2 wq) (fun i _=>k - (intOf i).toNat)
       case atStart=>exact ⟨0,Nat.zero_le _,rfl,rfl,Below.refl _ _⟩
       case round=>
        obtain ⟨j,hj,rfl,hA3,hW3⟩:=hrel
        have H3:=Lib.hid hA3
        have M3:=Lib.hid (M2.out.below hW3)
        have F3:=Lib.hid (F2.out.below hW3)
        have X3:=Lib.hid (below_trans X2.out hW3)
        clear hA3
        obtain ⟨_,_,_,_⟩:=M3.out.all
        obtain ⟨_,_,_,_,_,_⟩:=F3.out.all
        by_cases hjk:j < k
        ·obtain ⟨b',off',e1,-,hf',-⟩:=f_lit HM.out.f (show j < m.nF by omega) X3.out
         rw [e0] at e1
         injection e1 with e1
         injection e1 with e1 e2
         subst e1 e2
         obtain ⟨y1,hy1⟩:∃ y,((m.F j).name.toList == nm.toList)=y:=⟨_,rfl⟩
         obtain ⟨y2,hy2⟩:∃ y,((m.F j).number == nu)=y:=⟨_,rfl⟩
         have hbd:=Lib.hid (show (fun q=>eqS (m.F q).name nm || ((m.F q).number == nu)) j=(y1 || y2) by show (eqS (m.F j).name nm || ((m.F j).number == nu))=_;unfold eqS;rw [hy1,hy2])
         obtain ⟨_,_,_,_,_,_⟩:=hf'.all
         have j1:(j:Int) < (k:Int):=by omega
         have j2:(0:Int)≤(j:Int):=by omega
         have j3:(j:Int).toNat=j:=rfl
         have j4:(j:Int) < (m.nF:Int):=by omega
         have e6:fldC m k=anyN (fun q=>eqS (m.F q).name nm || ((m.F q).number == nu)) k:=by unfold fldC;rw [HF0.out]
         have E6:=Lib.hid e6
         clear e6
         go_upto_region 12 with fail
         cases y1 with
         | true=>
          exact z9zk4
         | false=>
          cases y2 with
          | true=>
           exact z9zk4
          | false=>
           go_region
           all_goals (repeat any_goals (first|go_skip|go_guarded|go_step|go_upon|(simp only [];done)))
           go_roundw
           case rel=>exact ⟨j+1,by omega,rfl,by show (anyN _ j || _)=false;rw [H3.out];exact hbd.out,below_drew hW3⟩
           case measure=>simp [intOf];omega
        ·obtain rfl:j=k:=by omega
         have j1:¬ (j:Int) < (j:Int):=by omega
         have hb:fldBad M n m j=false:=by
          rw [HBAD.out,← HC.out,show fldC m j=anyN (fun q=>eqS (m.F q).name nm || ((m.F q).number == nu)) j by unfold fldC;rw [HF0.out],H3.out]
          rfl
         repeat any_goals (first|go_skip|go_guarded|go_step|go_upon|(simp only [];done))
         go_roundw
         case rel=>exact ⟨j+1,by omega,rfl,by show (anyN (fldBad M n m) j || fldBad M n m j)=false;rw [H1.out,hb];rfl,below_trans hW2 hW3⟩
         case measure=>simp [intOf];omega
  ·obtain rfl:k=m.nF:=by omega
   have i1:¬ (m.nF:Int) < (m.nF:Int):=by omega
   repeat any_goals (first|go_skip|go_guarded|go_step|go_upon|(simp only [];done))
   exact bodyPost_ret (v:=.bool true) (by simp [results,Tryd.results29,go_sem]) rfl ⟨by unfold fieldsB;rw [H1.out];rfl,Xr.out⟩
end Go.Proofs.YtfondldmmcmloaaDoor
