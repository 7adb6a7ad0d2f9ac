/- The card of PvalidNumbers. -/
import Derived.Test.YtfondldmmcmloaaDoorFr23
import Derived.Test.YtfondldmmcmloaaDoorNm23
namespace Go.Proofs.YtfondldmmcmloaaDoor.pvalidNumbers
open Go.ChangeShapes Go.WideShapes Go.ChangeAt Go.RowKit Go.ChangeMaps Go.Proofs.YtfondldmmcmloaaDoor
set_option maxRecDepth 100000 in
theorem contract (H:Type) (enc:TypeId × Value→H) (W:World) (base:Nat) (args:Array Value) (ds gs:List (DataW H)) (before:List MemPlace)
    (hval:∀ (j:Nat) t v,Tryd.f3.params[j]? = some t→args[j]? = some v→Value.okWide Tryd.prog W .any base t v)
    (hW:DataW.Whole enc Tryd.prog Tryd.f3.params.toList Rows.pvalidNumbersSpec.vars false W args.toList ds gs before) (hL:laidMetH Tryd.prog Rows.pvalidNumbersRow.laid W) :
    Calls Tryd.prog 3 args W fun e W'=>∃ v,e=.returned v∧Rows.pvalidNumbersSpec.post enc Tryd.prog Tryd.f3 false true false false W args v W':=by
  have hW':=hW
  obtain ⟨p,q,hA0,hV,rfl,hfz,hnd⟩:=hW
  have hA:DataW.TrodAll enc Tryd.prog W 0 (fun _=>true) true Tryd.f3.params.toList args.toList ds p:=hA0
  rw [Tryd.params3] at hA hval
  obtain ⟨v0,vs0,d0,ds0,p0,q0,hargs,rfl,rfl,h0,r0⟩:=trodAll_cons hA
  obtain ⟨v1,vs1,d1,ds1,p1,q1,rfl,rfl,rfl,h1,r1⟩:=trodAll_cons r0
  obtain ⟨v2,vs2,d2,ds2,p2,q2,rfl,rfl,rfl,h2,r2⟩:=trodAll_cons r1
  obtain ⟨rfl,rfl,rfl⟩:=trodAll_nil r2
  obtain rfl:args=#[v0,v1,v2]:=by cases args;simp_all
  obtain ⟨rfl,rfl⟩:=trodVars_none hV
  obtain ⟨a0,rfl,rfl,rfl,hwf0⟩:=open_int Tryd.underlying2 (hval 0 2 v0 rfl rfl) h0
  obtain ⟨a1,rfl,rfl,rfl,hwf1⟩:=open_int Tryd.underlying22 (hval 1 22 v1 rfl rfl) h1
  obtain ⟨a2,rfl,rfl,rfl,hwf2⟩:=open_int Tryd.underlying3 (hval 2 3 v2 rfl rfl) h2
  clear hA0
  simp only [List.append_nil] at hW'
  have ha0:=i64_wf hwf0
  obtain ⟨a1,rfl,ha1⟩:=u64_wf hwf1
  have ha2:=i64_wf hwf2
  refine (PvalidNumbers_any a0 a1 a2 W ha0.1 ha0.2 ha1 ha2.1 ha2.2 (u8_of6 hL) (tab_of6 hL)).mono fun e W' ⟨he,hg⟩=>?_
  subst he
  refine ⟨_,rfl,post_reads hW' rfl (fun t ht=>?_) (trodAll_cons_mk (shut_bool Tryd.underlying4 _) trodAll_mk0) rfl rfl hg⟩
  rw [Tryd.params3] at ht
  simp only [List.mem_cons,List.not_mem_nil,or_false] at ht
  rcases ht with rfl|rfl|rfl
  · exact ⟨by kernel_rfl,of_decide_eq_true (by kernel_rfl)⟩
  · exact ⟨by kernel_rfl,of_decide_eq_true (by kernel_rfl)⟩
  · exact ⟨by kernel_rfl,of_decide_eq_true (by kernel_rfl)⟩
set_option maxRecDepth 100000 in
theorem laid_met (os:Os):laidMet Tryd.prog Rows.pvalidNumbersRow.laid ((laidWorld os).forCall (fun _ _=>0) ⟨#[],#[.int .i64 0,.int .u64 0,.int .i64 0],[]⟩).memory:=
  laidMet_of_run' 300 (by kernel_rfl) (by kernel_rfl)
set_option maxRecDepth 100000 in
theorem reads (os:Os) {H:Type} (enc:TypeId × Value→H):∃ places,DataW.whole enc Tryd.prog ((laidWorld os).forCall (fun _ _=>0) ⟨#[],#[.int .i64 0,.int .u64 0,.int .i64 0],[]⟩).memory Tryd.f3.params.toList Rows.pvalidNumbersSpec.vars false #[Value.int .i64 0,Value.int .u64 0,Value.int .i64 0].toList 8=some ([.lit (.int .i64 0),.lit (.int .u64 0),.lit (.int .i64 0)],[],places):=
  ⟨[],by kernel_rfl⟩
set_option maxRecDepth 100000 in
theorem lifted (os:Os) (started:os.Started) (H:Type) (enc:TypeId × Value→H) (F:Stop.Interp) :
    ReturnsInHanded {} Tryd.checked os 3 .any ((OpenSpec.ofChange Rows.pvalidNumbersSpec).preRow enc Tryd.prog Tryd.f3 Rows.pvalidNumbersRow.domain false Rows.pvalidNumbersRow.laid) (((OpenSpec.ofChange Rows.pvalidNumbersSpec).at F).post enc Tryd.prog Tryd.f3 false true false false):=by
  obtain ⟨places,hx⟩:=reads os enc
  refine returnsInHanded_of_row (C:=Tryd.checked) (s:=OpenSpec.ofChange Rows.pvalidNumbersSpec) own started (by kernel_rfl) Tryd.func3
    (witness_row_at (enc:=enc) (C:=Tryd.checked) false (laidWorld os) #[.int .i64 0,.int .u64 0,.int .i64 0] rfl (by kernel_rfl) (by kernel_rfl) (by kernel_rfl)
      (OpenSpec.preRow_of_cond 8 hx (by kernel_rfl) (fun k hk=>by cases hk) (by kernel_rfl) (laid_met os))) ?_
  intro W base args ds gs before hval hW _ _ _ hL _ _
  exact contract H enc W base args ds gs before hval hW hL
theorem said:Rows.PvalidNumbersSaid:=
  OpenClaim.holds_of_cond 3 Tryd.f3 rfl rfl rfl rfl rfl rfl rfl ⟨rfl,rfl,rfl,rfl,rfl⟩ rfl rfl rfl rfl rfl (by kernel_rfl) Tryd.func3 (by kernel_rfl)
    (of_decide_eq_true (by kernel_rfl)) (by unfold Func.isWrapper;first|(rw [if_pos (by decide +kernel)];kernel_rfl)|(rw [if_neg (by decide +kernel)];exact ⟨rfl,rfl⟩))
    (fun os started H enc _ F=>by rw [OpenClaim.pre_eq_preRow];exact lifted os started H enc F)
theorem plain (f:FuncId) (fn:Func) (hf:Tryd.pinned.checked.prog.funcNamed "entrepot/entrepotlaw23.PvalidNumbers" = some f) (hfn:Tryd.pinned.checked.prog.funcs[f]? = some fn) :
    false=Tryd.pinned.checked.prog.looks []∧∀ (j:Nat) t,fn.params[j]? = some t→Tryd.pinned.checked.prog.wantsStandIn t=false:=by
  obtain rfl:f=3:=Option.some.inj ((show Tryd.prog.funcNamed "entrepot/entrepotlaw23.PvalidNumbers" = some 3 by kernel_rfl).symm.trans hf) |>.symm
  obtain rfl:fn=Tryd.f3:=(Option.some.inj (Tryd.func3.symm.trans hfn)).symm
  refine ⟨by kernel_rfl,fun j t ht=>?_⟩
  rw [Tryd.params3] at ht
  have hm:=Array.mem_of_getElem? ht
  simp only [List.mem_toArray,List.mem_cons,List.not_mem_nil,or_false] at hm
  rcases hm with rfl|rfl|rfl
  · exact (show Tryd.prog.wantsStandIn 2=false by kernel_rfl)
  · exact (show Tryd.prog.wantsStandIn 22=false by kernel_rfl)
  · exact (show Tryd.prog.wantsStandIn 3=false by kernel_rfl)
/-- THE CARD -/
theorem card:Rows.PvalidNumbersCardSaid:=
  Claim7.holds_tied_plain_at .later [] _ _ _ _ said (fun _ h=>by cases h) (by kernel_rfl) (fun _ h=>by cases h) pvalidNumbers_row_tie rfl ⟨rfl,rfl⟩ (by kernel_rfl) rfl plain (by kernel_rfl)
end Go.Proofs.YtfondldmmcmloaaDoor.pvalidNumbers
