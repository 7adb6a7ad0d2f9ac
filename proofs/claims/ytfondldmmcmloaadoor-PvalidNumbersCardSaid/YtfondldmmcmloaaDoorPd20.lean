/- HeldT, NrL, Tk0. -/
import Derived.OrdersHeld
import Derived.Maps.AppendAt
import Derived.Test.YtfondldmmcmloaaDoorPd19
set_option maxRecDepth 1000000
set_option maxHeartbeats 8000000
namespace Go.Proofs.YtfondldmmcmloaaDoor
open Go
section
variable {P:Program} {ops:Array Oper} {Q:Exit→Act→World→Prop} {md:Region.Mode} {S:World→Prop} {T:Nat→Bool}
def waitsOn (md:Region.Mode) (ops:Array Oper):Nat→Nat→Nat→Bool
 | 0,_,_=>false
 | f+1,t,i=>((ops[t]?).map fun o=>o.after.any fun e=>Region.binds md e && (e.on == i || waitsOn md ops f e.on i)).getD false
def ClosedL (md:Region.Mode) (ops:Array Oper) (listed:Array Bool):Prop:=
 ∀ j oj,ops[j]? = some oj→listed.getD j false=true→∀ e ∈ oj.after,Region.binds md e=true→listed.getD e.on false=true
theorem ClosedL.set {i:Nat} {listed:Array Bool} (inv:ClosedL md ops listed) (hi:i ∈ Region.ready md ops listed):ClosedL md ops (listed.setIfInBounds i true):=by
 obtain ⟨_,oi,hoi,hall⟩:=mem_ready.1 hi
 intro j oj hj hl e he hb
 by_cases hij:i=j
 ·subst hij
  have:oj=oi:=Option.some.inj (hj.symm.trans hoi)
  subst this
  exact getD_set_true (hall e he hb)
 ·rw [getD_set_ne false hij] at hl
  exact getD_set_true (inv j oj hj hl e he hb)
theorem waits_done {listed:Array Bool} (inv:ClosedL md ops listed):∀ (f t i:Nat),waitsOn md ops f t i=true→(∀ o,ops[t]? = some o→∀ e ∈ o.after,Region.binds md e=true→listed.getD e.on false=true)→listed.getD i false=true:=by
 intro f
 induction f with
 | zero=>intro t i h;cases h
 | succ f ih=>
  intro t i h hall
  unfold waitsOn at h
  cases ho:ops[t]? with
  | none=>rw [ho] at h;cases h
  | some o=>
   rw [ho] at h
   simp only [Option.map_some,Option.getD_some] at h
   obtain ⟨e,he,hb⟩:=Array.any_eq_true'.1 h
   simp only [Bool.and_eq_true,Bool.or_eq_true,beq_iff_eq] at hb
   have h1:=hall o ho e he hb.1
   rcases hb.2 with h2|h2
   ·rw [← h2];exact h1
   ·exact ih e.on i h2 fun o' ho' e' he' hb'=>inv e.on o' ho' h1 e' he' hb'
def wpAnyT (P:Program) (md:Region.Mode) (ops:Array Oper) (Q:Exit→Act→World→Prop) (S:World→Prop) (T:Nat→Bool):Nat→Array Bool→Act→World→Prop
 | 0,listed,a,w=>Region.ready md ops listed=[]∧Q .normal a w
 | fuel+1,listed,a,w=>
  (Region.ready md ops listed=[]→Q .normal a w) ∧
  ∀ i ∈ Region.ready md ops listed,wpOp P ops Q i (fun a' w'=>(T i=false→S w')∧wpAnyT P md ops Q S T fuel (listed.setIfInBounds i true) a' w') a w
theorem wpAny_of_T:∀ (fuel:Nat) (listed:Array Bool) (a:Act) (w:World),wpAnyT P md ops Q S T fuel listed a w→wpAny P md ops Q fuel listed a w
 | 0,_,_,_,h=>h
 | fuel+1,_,_,_,h=>⟨h.1,fun i hi=>wpOp_mono (fun a' w' h'=>wpAny_of_T fuel _ a' w' h'.2) (h.2 i hi)⟩
theorem wpAnyT_first {i:Nat} {oi:Oper} {v:Value} (hi:ops[i]? = some oi) (hsel:∀ (j:Nat) (o:Oper) cs b,ops[j]? = some o→o.op≠.select cs b)
  (hQ:∀ c a w,Q (.panic c) (a.put oi.dst v) w→Q (.panic c) a w) (hT:∀ t,t < ops.size→T t=true→waitsOn md ops ops.size t i=true) (hTi:T i=false) :
  ∀ (fuel:Nat) (listed:Array Bool) (a:Act) (w:World),ClosedL md ops listed →
   (∀ j oj,ops[j]? = some oj→j≠i→listed.getD j true=false→(∀ e ∈ oj.after,Region.binds md e=true→e.on≠i)→oi.apart ops oj=true) →
   i ∈ Region.ready md ops listed→YieldsIf P ops S oi v a→S w →
   wpAnyT P md ops Q S T fuel (listed.setIfInBounds i true) (a.put oi.dst v) w→wpAnyT P md ops Q S T (fuel+1) listed a w:=by
 intro fuel
 induction fuel with
 | zero=>
  intro listed a w _ hfree hr hy hS H
  refine ⟨fun h=>(by rw [h] at hr;cases hr),fun j hj=>?_⟩
  by_cases hji:j=i
  ·subst hji;exact hy.wpOp hi hS ⟨fun _=>hS,H⟩
  ·have:=ready_mono hj hji
   rw [H.1] at this
   cases this
 | succ fuel ih=>
  intro listed a w inv hfree hr hy hS H
  refine ⟨fun h=>(by rw [h] at hr;cases hr),fun j hj=>?_⟩
  by_cases hji:j=i
  ·subst hji;exact hy.wpOp hi hS ⟨fun _=>hS,H⟩
  ·have h1:=H.2 j (ready_mono hj hji)
   obtain ⟨hjun,oj,hoj,hall⟩:=mem_ready.1 hj
   have hiun:listed.getD i false=false:=getD_both (mem_ready.1 hr).1
   have hTj:T j=false:=by
    cases hc:T j with
    | false=>rfl
    | true=>
     have:=waits_done inv _ _ _ (hT j (Array.getElem?_eq_some_iff.1 hoj).1 hc) (fun o ho e he hb=>by
      have:o=oj:=Option.some.inj (ho.symm.trans hoj)
      subst this
      exact hall e he hb)
     rw [hiun] at this
     cases this
   have hnot:∀ e ∈ oj.after,Region.binds md e=true→e.on≠i:=fun e he hb heq=>by
    have h1:=hall e he hb
    rw [heq,hiun] at h1
    cases h1
   have h2:=wpOp_putIf hoj (hfree j oj hoj hji hjun hnot) (fun cs b=>hsel i oi cs b hi) (fun cs b=>hsel j oj cs b hoj) hQ hy h1
   have hfree':∀ k ok,ops[k]? = some ok→k≠i→(listed.setIfInBounds j true).getD k true=false →
     (∀ e ∈ ok.after,Region.binds md e=true→e.on≠i)→oi.apart ops ok=true:=fun k ok hk hki hun hno=>by
    refine hfree k ok hk hki ?_ hno
    by_cases hjk:j=k
    ·subst hjk;exact hjun
    ·rw [getD_set_ne true hjk] at hun;exact hun
   refine wpOp_mono (fun a' w' h3=>⟨h3.2.1,ih (listed.setIfInBounds j true) a' w' (inv.set hj) hfree' (ready_mono hr (Ne.symm hji)) h3.1 (h3.2.1 hTj) ?_⟩) h2
   rw [Array.setIfInBounds_comm _ _ hji]
   exact h3.2.2
def lateB (md:Region.Mode) (ops:Array Oper) (T:Nat→Bool) (i:Nat):Bool:=!T i && (List.range ops.size).all fun t => !T t || waitsOn md ops ops.size t i
def closedB (md:Region.Mode) (ops:Array Oper) (listed:Array Bool):Bool:=
 (List.range ops.size).all fun j=>((ops[j]?).map fun o => !listed.getD j false || o.after.all fun e => !Region.binds md e || listed.getD e.on false).getD true
theorem closedB_spec {listed:Array Bool} (h:closedB md ops listed=true):ClosedL md ops listed:=by
 intro j oj hj hl e he hb
 have h1:=List.all_eq_true.1 h j (List.mem_range.2 (Array.getElem?_eq_some_iff.1 hj).1)
 rw [hj] at h1
 simp only [Option.map_some,Option.getD_some,hl,Bool.not_true,Bool.false_or] at h1
 have h2:=Array.all_eq_true'.1 h1 e he
 rw [hb] at h2
 simpa using h2
theorem wpAnyT_take {i:Nat} {oi:Oper} {v:Value} {fuel:Nat} {listed:Array Bool} {a:Act} {w:World} (hi:ops[i]? = some oi)
  (hs:Region.noSelect ops=true) (hf:Region.free md ops listed i=true) (hr:(Region.ready md ops listed).contains i=true) (hc:closedB md ops listed=true) (hl:lateB md ops T i=true)
  (hQ:∀ c a w,Q (.panic c) (a.put oi.dst v) w→Q (.panic c) a w) (hy:YieldsIf P ops S oi v a) (hS:S w)
  (h:wpAnyT P md ops Q S T fuel (listed.setIfInBounds i true) (a.put oi.dst v) w):wpAnyT P md ops Q S T (fuel+1) listed a w:=by
 unfold lateB at hl
 rw [Bool.and_eq_true,Bool.not_eq_true'] at hl
 refine wpAnyT_first hi (Region.noSelect_spec hs) hQ (fun t ht hT=>?_) hl.1 fuel listed a w (closedB_spec hc) (Region.free_spec hi hf) (by simpa using hr) hy hS h
 have h1:=List.all_eq_true.1 hl.2 t (List.mem_range.2 ht)
 rw [hT] at h1
 simpa using h1
def AllReadyT (P:Program) (md:Region.Mode) (ops:Array Oper) (Q:Exit→Act→World→Prop) (S:World→Prop) (T:Nat→Bool) (fuel:Nat) (listed:Array Bool) (a:Act) (w:World) (rs:List Nat):Prop:=
 ∀ i ∈ rs,wpOp P ops Q i (fun a' w'=>(T i=false→S w')∧wpAnyT P md ops Q S T fuel (listed.setIfInBounds i true) a' w') a w
theorem AllReadyT.nil {fuel:Nat} {listed:Array Bool} {a:Act} {w:World}:AllReadyT P md ops Q S T fuel listed a w []:=fun _ h=>by cases h
theorem AllReadyT.cons {fuel:Nat} {listed:Array Bool} {a:Act} {w:World} {i:Nat} {o:Oper} {rs:List Nat} (ho:ops[i]? = some o)
  (h:∀ K':Act→World→Prop,Shut (∀ a w,(T i=false→S w)→((T i=false→S w)→wpAnyT P md ops Q S T fuel (listed.setIfInBounds i true) a w)→K' a w)→if Region.wanted o (yielded ops a.tmps)=true then Oper.wp P o a w K' Q else K' (a.put o.dst undef) w)
  (hs:AllReadyT P md ops Q S T fuel listed a w rs):AllReadyT P md ops Q S T fuel listed a w (i :: rs):=fun j hj=>by
 rcases List.mem_cons.1 hj with rfl|hj
 ·exact wpOp_step ho (fun K' hK=>h K' (fun a w hS hW=>hK a w ⟨hS,hW hS⟩))
 ·exact hs j hj
theorem wpAnyT_ready {rs:List Nat} {fuel:Nat} {listed:Array Bool} {a:Act} {w:World} (hr:Region.ready md ops listed=rs) (hne:rs≠[])
  (h:AllReadyT P md ops Q S T fuel listed a w rs):wpAnyT P md ops Q S T (fuel+1) listed a w:=⟨fun h0=>absurd (hr ▸ h0) hne,hr ▸ h⟩
theorem wpAnyT_done {listed:Array Bool} {a:Act} {w:World} (hr:Region.ready md ops listed=[]) (h:Q .normal a w) :
  ∀ fuel,wpAnyT P md ops Q S T fuel listed a w
 | 0=>⟨hr,h⟩
 | _+1=>⟨fun _=>h,by rw [hr];simp⟩
theorem wp_region_late {id:Nat} {a:Act} {w:World} (S:World→Prop) (T:Nat→Bool) (hm:P.follows .mixedOrders=true) (hS:S w.drew)
  (h:S w.drew→wpAnyT P .any ops (NoPanic Q) S T ops.size (Array.replicate ops.size false) a w.drew):(Code.region id ops true).wp P Q a w:=
 wp_region_noPanic (wp_region_any hm (wpAny_of_T _ _ _ _ (h hS)))
end
open Go.RowKit
section
variable {P:Program} {w:World}
theorem step_append_at {ops:Array Oper} {o:Oper} {a:Act} {K:Act→World→Prop} {Q:Exit→Act→World→Prop} {E:Prop} (hg:o.guard=none) (s x:Operand) (t:TypeId)
  (ho:o.op=.call { callee:=.builtin .append,args:=#[s,x],argTypes:=#[t,t] })
  (base:Nat) (e:TypeId) (i:TypeInfo) (z:Value) (size bytes:Nat) (ht:P.underlying t=some (.slice e)) (hi:P.info? e=some i) (hz:i.zero=some z)
  (hsize:i.size=size) (hby:i.bytes=bytes) (hzs:z.cells.size=size) (hsz:0 < size)
  (v:Value) (n:Nat) (xs:List Value) (hs:a.eval s=v) (hown:w.ownsRow base e size v n xs)
  (ad:Addr) (m c:Nat) (news:List Value) (hx:a.eval x=.slice (some ad) m c) (hl:news.length=m * size) (hnews:∀ j u,news[j]? = some u→w.cell? (ad.add j)=some u) (h1:∀ u ∈ news,u.oneCell'=true)
  (h63:n+m≤maxLen) (hbytes:(n+m) * bytes≤140737488355328) (hbase:base≤w.heap.size)
  (h:∀ v' w',w'.ownsRow base e size v' (n+m) (xs ++ news)→w.grownBy w' v.ownBlock→(v'.ownBlock=v.ownBlock∨v'.ownBlock=some w.heap.size)→K (a.put o.dst v') w') :
  if Region.wanted o (yielded ops a.tmps)=true then Oper.wp P o a w K Q else E:=by
 have hw:Region.wanted o (yielded ops a.tmps)=true:=by simp [Region.wanted,hg]
 rw [if_pos hw]
 obtain ⟨v',w',hr,h2,h3,h4,h5⟩:=run_append_own_at (P:=P) w base t o.type e i z size bytes ht hi hz hsize hby hzs hsz v n xs hown ad m c news hl hnews h1 h63 hbytes hbase
 unfold Oper.wp execOp
 simp only [ho,resolve,invoke,builtin,Sem.run_bind,Sem.run_pure,Result.andThen_ok,List.map_toArray,List.map_cons,List.map_nil,hs,hx,hr]
 exact h v' w' h2 h3 h5
end
def VT.Blk (Q:Nat→Prop):VT→Prop
 | .nil=>True
 | .mk _ _ _ _ _ aL nL _ kids aK nK _ _=>(nL=0∨∀ ad,aL=some ad→Q ad.block)∧(nK=0∨∀ ad,aK=some ad→Q ad.block)∧∀ i,i < nL→(kids i).Blk Q
theorem VT.Blk.mono {Q R:Nat→Prop} (h:∀ b,Q b→R b):∀ {T:VT},T.Blk Q→T.Blk R:=by
 intro T
 induction T with
 | nil=>exact id
 | mk kind neg V bits text aL nL cL kids aK nK cK keys ih=>
  rintro ⟨h1,h2,h3⟩
  exact ⟨h1.imp id fun f ad e=>h _ (f ad e),h2.imp id fun f ad e=>h _ (f ad e),fun i hi=>ih i (h3 i hi)⟩
theorem VT.In.blk {w:World}:∀ {T:VT},T.In w→T.Blk (fun b=>b < w.heap.size):=by
 intro T
 induction T with
 | nil=>exact fun _=>trivial
 | mk kind neg V bits text aL nL cL kids aK nK cK keys ih=>
  rintro ⟨-,h1,h2,h3⟩
  refine ⟨h1.imp id ?_,h3.imp id ?_,fun i hi=>ih i (h2 i hi)⟩
  ·rintro ⟨b,off,rfl,hb,-⟩ ad e
   injection e with e
   subst e
   exact hb
  ·rintro ⟨b,off,rfl,hb,-⟩ ad e
   injection e with e
   subst e
   exact hb
theorem VT.In.kept {w w':World} {Q:Nat→Prop} (hs:w.heap.size≤w'.heap.size) (hQ:∀ b,b < w.heap.size→Q b→w'.heap[b]? = w.heap[b]?):∀ {T:VT},T.In w→T.Blk Q→T.In w':=by
 intro T
 induction T with
 | nil=>exact fun h=>h.elim
 | mk kind neg V bits text aL nL cL kids aK nK cK keys ih=>
  rintro ⟨o,l,k,n⟩ ⟨q1,q2,q3⟩
  refine ⟨o,?_,fun i hi=>ih i (k i hi) (q3 i hi),?_⟩
  ·rcases l with l|⟨b,off,e,hl,hc⟩
   ·exact .inl l
   ·rcases q1 with q1|q1
    ·exact .inl q1
    ·have hk:=hQ b hl (q1 _ e)
     exact .inr ⟨b,off,e,Nat.lt_of_lt_of_le hl hs,fun i hi j hj=>by rw [World.cell?_of_block (a:=⟨b,off+i * 10+j,none⟩) hk];exact hc i hi j hj⟩
  ·rcases n with n|⟨b,off,e,hl,hc⟩
   ·exact .inl n
   ·rcases q2 with q2|q2
    ·exact .inl q2
    ·have hk:=hQ b hl (q2 _ e)
     exact .inr ⟨b,off,e,Nat.lt_of_lt_of_le hl hs,fun i hi=>⟨by rw [World.cell?_of_block (a:=⟨b,off+i,none⟩) hk];exact (hc i hi).1,(hc i hi).2⟩⟩
theorem rows_ne {w:World} {b b':Nat} {e e':TypeId} {s s':Nat} {v v':Value} {n n':Nat} {xs xs':List Value} (h:w.ownsRow b e s v n xs) (h':w.ownsRow b' e' s' v' n' xs') (hne:e≠e'):v.ownBlock=none∨v.ownBlock≠v'.ownBlock:=by
 rcases h.2 with ⟨rfl,-⟩|⟨g,cap,cur,rfl,-,hg,-⟩
 ·exact .inl rfl
 ·right
  rcases h'.2 with ⟨rfl,-⟩|⟨g',cap',cur',rfl,-,hg',-⟩
  ·intro c;cases c
  ·intro c
   injection c with c
   subst c
   rw [hg] at hg'
   injection hg' with hg'
   injection hg' with _ h2 _
   exact hne h2
theorem rows_below {w w':World} {b:Nat} {e:TypeId} {s:Nat} {v:Value} {n:Nat} {xs:List Value} (h:w.ownsRow b e s v n xs) (hb:Below w.heap.size w w'):w'.ownsRow b e s v n xs:=by
 refine ⟨h.1,?_⟩
 rcases h.2 with hn|⟨g,cap,cur,rfl,h1,hg,rest⟩
 ·exact .inl hn
 ·exact .inr ⟨g,cap,cur,rfl,h1,by rw [hb.block g (Array.getElem?_eq_some_iff.1 hg).1];exact hg,rest⟩
structure WBx (w:World) (B:Nat) (a0 a1 a2 a3 a4 a5 a6 a7 a8 a9:Value):Prop where
 c:RBx w B a0 a1 a2 a3 a4 a5 a6 a7 a8 a9
 f:∀ j,w.frozen? ⟨B,j,none⟩=false
theorem WBx.lt {w:World} {B:Nat} {a0 a1 a2 a3 a4 a5 a6 a7 a8 a9:Value} (h:WBx w B a0 a1 a2 a3 a4 a5 a6 a7 a8 a9):B < w.heap.size:=World.block_lt_of_cell? w ⟨B,0,none⟩ h.c.all.1
theorem WBx.same {w w':World} {B:Nat} {a0 a1 a2 a3 a4 a5 a6 a7 a8 a9:Value} (h:WBx w B a0 a1 a2 a3 a4 a5 a6 a7 a8 a9) (hk:w'.heap[B]? = w.heap[B]?):WBx w' B a0 a1 a2 a3 a4 a5 a6 a7 a8 a9:=by
 have e:∀ j,w'.cell? ⟨B,j,none⟩=w.cell? ⟨B,j,none⟩:=fun j=>World.cell?_of_block (a:=⟨B,j,none⟩) hk
 obtain ⟨⟨h0,h1,h2,h3,h4,h5,h6,h7,h8,h9⟩,hf⟩:=h
 exact ⟨⟨by rw [e];exact h0,by rw [e];exact h1,by rw [e];exact h2,by rw [e];exact h3,by rw [e];exact h4,by rw [e];exact h5,by rw [e];exact h6,by rw [e];exact h7,by rw [e];exact h8,by rw [e];exact h9⟩,fun j=>(World.frozen?_of_block (a:=⟨B,j,none⟩) hk).trans (hf j)⟩
theorem WBx.below {w w':World} {B:Nat} {a0 a1 a2 a3 a4 a5 a6 a7 a8 a9:Value} (h:WBx w B a0 a1 a2 a3 a4 a5 a6 a7 a8 a9) (hb:Below w.heap.size w w'):WBx w' B a0 a1 a2 a3 a4 a5 a6 a7 a8 a9:=h.same (hb.block B h.lt)
theorem block_setCell {w:World} {B b j:Nat} {v:Value} (hne:b≠B):(w.setCell ⟨B,j,none⟩ v).heap[b]? = w.heap[b]? := Below.heap_setCell _ _ _ _ hne
theorem VBx.same {w w':World} {B:Nat} {kind:Int} {neg:Bool} {V bits:Nat} {text:ByteArray} {aL:Option Addr} {nL cL:Nat} {aK:Option Addr} {nK cK:Nat} (h:VBx w B kind neg V bits text aL nL cL aK nK cK) (hk:w'.heap[B]? = w.heap[B]?):VBx w' B kind neg V bits text aL nL cL aK nK cK:=by
 have e:∀ j,w'.cell? ⟨B,j,none⟩=w.cell? ⟨B,j,none⟩:=fun j=>World.cell?_of_block (a:=⟨B,j,none⟩) hk
 obtain ⟨h0,h1,h2,h3,h4,h5,h6,h7,h8,h9⟩:=h.c
 exact ⟨by rw [e];exact h0,by rw [e];exact h1,by rw [e];exact h2,by rw [e];exact h3,by rw [e];exact h4,by rw [e];exact h5,by rw [e];exact h6,by rw [e];exact h7,by rw [e];exact h8,by rw [e];exact h9⟩
def OffB (l h:Nat) (lv kv:Value) (b:Nat):Prop:=(b < l∨h≤b)∧some b≠lv.ownBlock∧some b≠kv.ownBlock
structure NrI (w W wr:World) (Bo:Nat) (T0:VT) (fK:Nat→ByteArray) (fT:Nat→VT) (cn:Nat) (lv kv:Value) (t:Nat→VT):Prop where
 o:WBx wr Bo (.int .i64 8) (.bool false) (.int .u64 0) (.int .u64 0) (.int .u64 0) (.int .u64 0) (.int .u64 0) (.string ⟨#[]⟩) lv kv
 l:wr.ownsRow W.heap.size 35 10 lv cn (rowV t cn)
 k:wr.ownsRow W.heap.size 9 1 kv cn (rowK fK cn)
 t:∀ i,i < cn→(t i).In wr∧(t i).Blk (OffB w.heap.size W.heap.size lv kv)∧(∀ Q:Nat→Prop,T0.Blk Q→(∀ b,w.heap.size≤b→Q b)→(t i).Blk Q)∧Sim (t i) (fT i)
 b:But Bo Bo W wr
theorem NrI.below {w W wr w1:World} {Bo:Nat} {T0:VT} {fK:Nat→ByteArray} {fT:Nat→VT} {cn:Nat} {lv kv:Value} {t:Nat→VT} (h:NrI w W wr Bo T0 fK fT cn lv kv t) (hb:Below wr.heap.size wr w1):NrI w W w1 Bo T0 fK fT cn lv kv t:=
 ⟨h.o.below hb,rows_below h.l hb,rows_below h.k hb,fun i hi=>⟨VT.In.below hb _ (h.t i hi).1,(h.t i hi).2⟩,h.b.trans2 (But.of hb)⟩
theorem NrI.start {w W:World} {Bo:Nat} {T0:VT} {fK:Nat→ByteArray} {fT:Nat→VT} {t:Nat→VT} (o:WBx W Bo (.int .i64 8) (.bool false) (.int .u64 0) (.int .u64 0) (.int .u64 0) (.int .u64 0) (.int .u64 0) (.string ⟨#[]⟩) (.slice none 0 0) (.slice none 0 0)):NrI w W W Bo T0 fK fT 0 (.slice none 0 0) (.slice none 0 0) t:=
 ⟨o,World.ownsRow_nil _ _ _ _,World.ownsRow_nil _ _ _ _,fun _i hi=>absurd hi (Nat.not_lt_zero _),But.of (Below.refl _ _)⟩
structure Ap2 (w5 w6:World) (base:Nat) (lv kv lv1 kv1:Value) (cn:Nat) (xl xk nl nk:List Value):Prop where
 k:w6.ownsRow base 9 1 kv1 (cn+1) (xk ++ nk)
 l:w6.ownsRow base 35 10 lv1 (cn+1) (xl ++ nl)
 kn:kv1.ownBlock=kv.ownBlock∨∃ b,kv1.ownBlock=some b∧w5.heap.size≤b
 ln:lv1.ownBlock=lv.ownBlock∨∃ b,lv1.ownBlock=some b∧w5.heap.size≤b
 os:w6.os=w5.os
 tape:w6.tape=w5.tape
 output:w6.output=w5.output
 size:w5.heap.size≤w6.heap.size
 block:∀ b,b < w5.heap.size→some b≠lv.ownBlock→some b≠kv.ownBlock→w6.heap[b]? = w5.heap[b]?
theorem ap2_of {w5 wA wa wB w6:World} {base:Nat} {lv kv lv1 kv1:Value} {cn:Nat} {xl xk nl nk:List Value} (hA:Below w5.heap.size w5 wA) (g1:wA.grownBy wa kv.ownBlock) (n1:kv1.ownBlock=kv.ownBlock∨kv1.ownBlock=some wA.heap.size)
  (o1:wa.ownsRow base 9 1 kv1 (cn+1) (xk ++ nk)) (hB:Below wa.heap.size wa wB) (g2:wB.grownBy w6 lv.ownBlock) (n2:lv1.ownBlock=lv.ownBlock∨lv1.ownBlock=some wB.heap.size)
  (o2:w6.ownsRow base 35 10 lv1 (cn+1) (xl ++ nl)) (ol:wB.ownsRow base 35 10 lv cn xl):Ap2 w5 w6 base lv kv lv1 kv1 cn xl xk nl nk:=by
 have s1:=hA.size
 have s2:=g1.size
 have s3:=hB.size
 have s4:=g2.size
 refine ⟨(rows_below o1 hB).kept g2 (rows_ne (rows_below o1 hB) ol z0g),o2,n1.imp id fun h=>⟨_,h,s1⟩,n2.imp id fun h=>⟨_,h,by omega⟩,?_,?_,?_,by omega,fun b hb h1 h2=>?_⟩
 ·rw [g2.os,hB.os,g1.os,hA.os]
 ·rw [g2.tape,hB.tape,g1.tape,hA.tape]
 ·rw [g2.output,hB.output,g1.output,hA.output]
 ·rw [g2.block b z0b h1,hB.block b z0b,g1.block b z0b h2,hA.block b hb]
theorem rowV_same {t t':Nat→VT} {n:Nat} (h:∀ i,i < n→t i=t' i):rowV t n=rowV t' n:=by
 induction n with
 | zero=>rfl
 | succ n ih=>
  simp only [rowV]
  rw [ih fun i hi=>h i z0b,h n z0b]
theorem rowK_succ (f:Nat→ByteArray) (n:Nat):rowK f (n+1)=rowK f n ++ [.string (f n)]:=by
 unfold rowK
 rw [List.range_succ,List.map_append]
 rfl
theorem own_setCell {w:World} {b e s:Nat} {v:Value} {n:Nat} {xs:List Value} {B j:Nat} {x:Value} (h:w.ownsRow b e s v n xs) (hB:B < b):(w.setCell ⟨B,j,none⟩ x).ownsRow b e s v n xs:=by
 refine ⟨h.1,?_⟩
 rcases h.2 with hn|⟨g,cap,cur,rfl,h1,hg,rest⟩
 ·exact .inl hn
 ·exact .inr ⟨g,cap,cur,rfl,h1,by rw [block_setCell z0b];exact hg,rest⟩
theorem NrI.push {w W w5 w6:World} {Bo:Nat} {T0:VT} {fK:Nat→ByteArray} {fT:Nat→VT} {cn:Nat} {lv kv lv1 kv1:Value} {t:Nat→VT} {tn:VT} {s:ByteArray} (h:NrI w W w5 Bo T0 fK fT cn lv kv t) (hwB:w.heap.size≤Bo) (hBW:Bo < W.heap.size)
  (hA:Ap2 w5 w6 W.heap.size lv kv lv1 kv1 cn (rowV t cn) (rowK fK cn) tn.cells [.string s]) (hs:fK cn=s) (h1:tn.In w5) (h2:tn.Blk (OffB w.heap.size W.heap.size lv kv)) (h3:∀ Q:Nat→Prop,T0.Blk Q→(∀ b,w.heap.size≤b→Q b)→tn.Blk Q) (h4:Sim tn (fT cn)) :
  ∃ t':Nat→VT,NrI w W ((w6.setCell ⟨Bo,9,none⟩ kv1).setCell ⟨Bo,8,none⟩ lv1) Bo T0 fK fT (cn+1) lv1 kv1 t':=by
 obtain ⟨t',ht'⟩:∃ t':Nat→VT,t'=fun i=>if i < cn then t i else tn:=⟨_,rfl⟩
 have e1:∀ i,i < cn→t' i=t i:=fun i hi=>by rw [ht'];exact if_pos hi
 have e2:t' cn=tn:=by rw [ht'];exact if_neg (Nat.lt_irrefl _)
 have hsz:W.heap.size≤w5.heap.size:=h.b.size
 have hol:=h.o.lt
 have hlB:some Bo≠lv.ownBlock:=fun c=>by have:=(h.l.lt Bo c.symm).1;omega
 have hkB:some Bo≠kv.ownBlock:=fun c=>by have:=(h.k.lt Bo c.symm).1;omega
 have hO6:WBx w6 Bo (.int .i64 8) (.bool false) (.int .u64 0) (.int .u64 0) (.int .u64 0) (.int .u64 0) (.int .u64 0) (.string ⟨#[]⟩) lv kv:=h.o.same (hA.block Bo hol hlB hkB)
 have hk:∀ b,b < w5.heap.size→OffB w.heap.size W.heap.size lv kv b→((w6.setCell ⟨Bo,9,none⟩ kv1).setCell ⟨Bo,8,none⟩ lv1).heap[b]? = w5.heap[b]? := fun b hb q=>by
  have hne:b≠Bo:=by have:=q.1;omega
  rw [block_setCell hne,block_setCell hne]
  exact hA.block b hb q.2.1 q.2.2
 have hss:w5.heap.size≤((w6.setCell ⟨Bo,9,none⟩ kv1).setCell ⟨Bo,8,none⟩ lv1).heap.size:=by simpa using hA.size
 have hoff:∀ {x:VT},x.In w5→x.Blk (OffB w.heap.size W.heap.size lv kv)→x.Blk (OffB w.heap.size W.heap.size lv1 kv1):=by
  intro x hx hq
  have hb:x.Blk (fun b=>b < w5.heap.size∧OffB w.heap.size W.heap.size lv kv b):=by
   have:=hx.blk
   clear hx
   induction x with
   | nil=>trivial
   | mk kind neg V bits text aL nL cL kids aK nK cK keys ih=>
    obtain ⟨a1,a2,a3⟩:=hq
    obtain ⟨b1,b2,b3⟩:=this
    refine ⟨?_,?_,fun i hi=>ih i (a3 i hi) (b3 i hi)⟩
    ·rcases a1 with a1|a1
     ·exact .inl a1
     ·rcases b1 with b1|b1
      ·exact .inl b1
      ·exact .inr fun ad e=>⟨b1 ad e,a1 ad e⟩
    ·rcases a2 with a2|a2
     ·exact .inl a2
     ·rcases b2 with b2|b2
      ·exact .inl b2
      ·exact .inr fun ad e=>⟨b2 ad e,a2 ad e⟩
  refine hb.mono fun b ⟨q0,q1,q2,q3⟩=>⟨q1,?_,?_⟩
  ·rcases hA.ln with e|⟨g,e,hg⟩
   ·rw [e];exact q2
   ·rw [e];intro c;injection c with c;omega
  ·rcases hA.kn with e|⟨g,e,hg⟩
   ·rw [e];exact q3
   ·rw [e];intro c;injection c with c;omega
 refine ⟨t',?_,?_,?_,fun i hi=>?_,?_⟩
 ·obtain ⟨hc,hf⟩:=hO6
  obtain ⟨_,_,_,_,_,_,_,_,_,_⟩:=hc.all
  exact ⟨⟨by simp [go_sem, *]⟩,fun j=>by simp [go_sem, *]⟩
 ·refine own_setCell (own_setCell ?_ hBW) hBW
  have:=hA.l
  rw [show rowV t' (cn+1)=rowV t cn ++ tn.cells from by
   show rowV t' cn ++ (t' cn).cells=_
   rw [rowV_same e1,e2]]
  exact this
 ·refine own_setCell (own_setCell ?_ hBW) hBW
  rw [rowK_succ,hs]
  exact hA.k
 ·by_cases c:i < cn
  ·rw [e1 i c]
   obtain ⟨i1,i2,i3,i4⟩:=h.t i c
   exact ⟨i1.kept hss hk i2,hoff i1 i2,i3,i4⟩
  ·obtain rfl:i=cn:=by omega
   rw [e2]
   exact ⟨h1.kept hss hk h2,hoff h1 h2,h3,h4⟩
 ·refine ⟨hA.os.trans h.b.os,hA.tape.trans h.b.tape,hA.output.trans h.b.output,Nat.le_trans hsz hss,fun b hb hne hf=>?_⟩
  have c1:some b≠lv.ownBlock:=fun c=>by have:=(h.l.lt b c.symm).1;omega
  have c2:some b≠kv.ownBlock:=fun c=>by have:=(h.k.lt b c.symm).1;omega
  rw [block_setCell hne,block_setCell hne,hA.block b z0b c1 c2]
  exact h.b.block b hb hne hf
structure NrT (wr w5:World) (x:VT) (F tn:VT):Prop where
 i:tn.In w5
 q:∀ Q:Nat→Prop,x.Blk Q→(∀ b,wr.heap.size≤b→Q b)→tn.Blk Q
 s:Sim tn F
theorem NrT.below {wr w5 w6:World} {x F tn:VT} (h:NrT wr w5 x F tn) (hb:Below w5.heap.size w5 w6):NrT wr w6 x F tn:=⟨VT.In.below hb _ h.i,h.q,h.s⟩
structure RowX (w:World) (g n:Nat) (T:Nat→VT):Prop where
 c:∀ i,i < n→∀ j,j < 10→w.cell? ⟨g,i * 10+j,none⟩=(T i).cells[j]?
 f:∀ j,w.frozen? ⟨g,j,none⟩=false
 l:g < w.heap.size
theorem RowX.below {w w':World} {g n:Nat} {T:Nat→VT} (h:RowX w g n T) (hb:Below w.heap.size w w'):RowX w' g n T:=
 ⟨fun i hi j hj=>by rw [hb.cell (p:=⟨g,i * 10+j,none⟩) h.l];exact h.c i hi j hj,fun j=>(hb.frozen (p:=⟨g,j,none⟩) h.l).trans (h.f j),Nat.lt_of_lt_of_le h.l hb.size⟩
theorem rowX_of {w:World} {B g n c:Nat} {T:Nat→VT} (h:w.ownsRow B 35 10 (.slice (some ⟨g,0,none⟩) n c) n (rowV T n)) (h10:∀ i,i < n→(T i).cells.length=10):RowX w g n T∧n≤c∧c≤maxLen∧B≤g:=by
 have hlt:=h.lt g rfl
 refine ⟨⟨fun i hi j hj=>?_,fun j=>?_,hlt.2⟩,?_⟩
 ·have e:=rowV_get h10 hi hj
  have hlen:j < (T i).cells.length:=by rw [h10 i hi];exact hj
  rw [List.getElem?_eq_getElem hlen] at e ⊢
  have:=h.cells (g:=g) rfl _ _ e
  rw [addr_at,Nat.zero_add] at this
  exact this
 ·rcases h.2 with ⟨e,-⟩|⟨g',cap,cur,e,h1,hg,-⟩
  ·cases e
  ·injection e with e1 e2 e3
   injection e1 with e1
   injection e1 with e1
   subst e1
   simp [World.frozen?,hg]
 ·rcases h.2 with ⟨e,-⟩|⟨g',cap,cur,e,h1,hg,h2,h3,-⟩
  ·cases e
  ·injection e with e1 e2 e3
   subst e3
   exact ⟨h2,h3,hlt.1⟩
theorem rowV_form {w:World} {B:Nat} {v:Value} {n:Nat} {T:Nat→VT} (h:w.ownsRow B 35 10 v n (rowV T n)) (h10:∀ i,i < n→(T i).cells.length=10) :
  ∃ a c,v=.slice a n c∧n≤c∧c≤maxLen∧(n=0∨∃ b off,a=some ⟨b,off,none⟩∧b < w.heap.size∧∀ i,i < n→∀ j,j < 10→w.cell? ⟨b,off+i * 10+j,none⟩=(T i).cells[j]?)∧∀ ad,a=some ad→B≤ad.block:=by
 rcases h.2 with ⟨rfl,rfl⟩|⟨g,cap,cur,rfl,-⟩
 ·exact ⟨none,0,rfl,Nat.le_refl _,Nat.zero_le _,.inl rfl,fun ad e=>by cases e⟩
 ·obtain ⟨h1,h2,h3,h4⟩:=rowX_of h h10
  refine ⟨_,cap,rfl,h2,h3,.inr ⟨g,0,rfl,h1.l,fun i hi j hj=>by rw [Nat.zero_add];exact h1.c i hi j hj⟩,fun ad e=>?_⟩
  injection e with e
  subst e
  exact h4
theorem rowK_form {w:World} {B:Nat} {v:Value} {n:Nat} {f:Nat→ByteArray} (h:w.ownsRow B 9 1 v n (rowK f n)) (hf:∀ i,i < n→(f i).size≤maxLen) :
  ∃ a c,v=.slice a n c∧n≤c∧c≤maxLen∧(n=0∨∃ b off,a=some ⟨b,off,none⟩∧b < w.heap.size∧∀ i,i < n→w.cell? ⟨b,off+i,none⟩=some (.string (f i))∧(f i).size≤maxLen)∧∀ ad,a=some ad→B≤ad.block:=by
 rcases h.2 with ⟨rfl,rfl⟩|⟨g,cap,cur,rfl,h1,hg,h2,h3,-⟩
 ·exact ⟨none,0,rfl,Nat.le_refl _,Nat.zero_le _,.inl rfl,fun ad e=>by cases e⟩
 ·refine ⟨_,cap,rfl,h2,h3,.inr ⟨g,0,rfl,(h.lt g rfl).2,fun i hi=>⟨?_,hf i hi⟩⟩,fun ad e=>?_⟩
  ·have:=h.cells (g:=g) rfl i _ (rowK_get hi)
   rwa [addr_at] at this
  ·injection e with e
   subst e
   exact h1
end Go.Proofs.YtfondldmmcmloaaDoor
namespace Go.Proofs.YtfondldmmcmloaaDoor
open Go.RowKit
def runTo (p:Nat→Bool) (n:Nat):Nat→Nat→Nat
 | 0,i=>i
 | f+1,i=>if i < n∧p i=true then runTo p n f (i+1) else i
def runE (p:Nat→Bool) (n i:Nat):Nat:=runTo p n (n - i) i
theorem runE_step {p:Nat→Bool} {n i:Nat} (h:i < n) (hp:p i=true):runE p n i=runE p n (i+1):=by
 unfold runE
 obtain ⟨k,hk⟩:∃ k,n - i=k+1:=⟨n - i - 1,by omega⟩
 rw [hk,show n - (i+1)=k by omega]
 simp only [runTo]
 rw [if_pos ⟨h,hp⟩]
theorem runE_stop {p:Nat→Bool} {n i:Nat} (h:¬ (i < n∧p i=true)):runE p n i=i:=by
 unfold runE
 cases n - i with
 | zero=>rfl
 | succ k=>simp only [runTo];rw [if_neg h]
theorem runTo_ge {p:Nat→Bool} {n:Nat}:∀ f i,i≤runTo p n f i:=by
 intro f
 induction f with
 | zero=>exact fun i=>Nat.le_refl _
 | succ f ih=>
  intro i
  simp only [runTo]
  split
  ·have:=ih (i+1);omega
  ·exact Nat.le_refl _
theorem runE_ge {p:Nat→Bool} {n i:Nat}:i≤runE p n i:=runTo_ge _ _
theorem runTo_le {p:Nat→Bool} {n:Nat}:∀ f i,i≤n→runTo p n f i≤n:=by
 intro f
 induction f with
 | zero=>exact fun i h=>h
 | succ f ih=>
  intro i h
  simp only [runTo]
  split
  ·rename_i c;exact ih (i+1) z0b
  ·exact h
theorem runE_le {p:Nat→Bool} {n i:Nat} (h:i≤n):runE p n i≤n:=runTo_le _ _ h
theorem runTo_all {p:Nat→Bool} {n:Nat}:∀ f i j,i≤j→j < runTo p n f i→p j=true:=by
 intro f
 induction f with
 | zero=>intro i j h1 h2;simp only [runTo] at h2;omega
 | succ f ih=>
  intro i j h1 h2
  simp only [runTo] at h2
  split at h2
  ·rename_i c
   by_cases e:i=j
   ·subst e;exact c.2
   ·exact ih (i+1) j z0b h2
  ·omega
def blankN (c:Nat):Bool:=decide (c=32) || (decide (c=9) || (decide (c=10) || decide (c=13)))
def signN (c:Nat):Bool:=decide (c=61) || (decide (c=59) || (decide (c=123) || (decide (c=125) || (decide (c=60) || (decide (c=62) || decide (c=44))))))
abbrev Tok:=Int × ByteArray
def remN (s:ByteArray) (i:Nat):Bool:=decide (byteN s i=47) && (decide (i+1 < s.size) && decide (byteN s (i+1)=47))
def wordE (s:ByteArray) (i:Nat):Nat:=runE (fun j=>wordN (byteN s j)) s.size (i+1)
def digE (s:ByteArray) (i:Nat):Nat:=runE (fun j=>digitN (byteN s j)) s.size (i+1)
def quoE (s:ByteArray) (i:Nat):Nat:=runE (fun j => !decide (byteN s j=34)) s.size (i+1)
def remE (s:ByteArray) (i:Nat):Nat:=runE (fun j => !decide (byteN s j=10)) s.size i
def tokN (s:ByteArray):Nat→Nat→Option (List Tok)
 | 0,_=>some []
 | f+1,i=>
  if s.size≤i then some []
  else if blankN (byteN s i)=true then tokN s f (i+1)
  else if remN s i=true then tokN s f (remE s i)
  else if letterN (byteN s i)=true then (tokN s f (wordE s i)).map ((1,s.extract i (wordE s i)) :: ·)
  else if digitN (byteN s i)=true then (if 9 < digE s i - i∨(byteN s i=48∧1 < digE s i - i) then none else (tokN s f (digE s i)).map ((2,s.extract i (digE s i)) :: ·))
  else if byteN s i=34 then (if quoE s i=s.size∨named (s.extract (i+1) (quoE s i))=false then none else (tokN s f (quoE s i+1)).map ((3,s.extract (i+1) (quoE s i)) :: ·))
  else if signN (byteN s i)=true then (tokN s f (i+1)).map ((4,s.extract i (i+1)) :: ·)
  else none
structure TkI (s:ByteArray) (F i f:Nat) (l:List Tok):Prop where
 e:tokN s F 0=(tokN s f i).map (l ++ ·)
 fu:s.size - i < f
 le:i≤s.size
 ln:l.length≤i
theorem TkI.start (s:ByteArray):TkI s (s.size+1) 0 (s.size+1) []:=⟨by cases tokN s (s.size+1) 0 <;> rfl,by omega,Nat.zero_le _,Nat.le_refl _⟩
theorem map_cons {o:Option (List Tok)} {l:List Tok} {t:Tok}:(o.map (t :: ·)).map (l ++ ·)=o.map ((l ++ [t]) ++ ·):=by
 cases o with
 | none=>rfl
 | some x=>simp
section
variable {s:ByteArray} {F i f:Nat} {l:List Tok}
theorem TkI.out (h:TkI s F i f l) (hi:i=s.size):tokN s F 0=some l:=by
 rw [h.e]
 have hf:=h.fu
 cases f with
 | zero=>omega
 | succ f=>
  simp only [tokN]
  rw [if_pos z0b]
  simp
theorem TkI.blank (h:TkI s F i f l) (hi:i < s.size) (hb:blankN (byteN s i)=true):∃ f',TkI s F (i+1) f' l:=by
 have hf:=h.fu
 cases f with
 | zero=>omega
 | succ f=>
  refine ⟨f,?_,by omega,by omega,by have:=h.ln;omega⟩
  rw [h.e]
  simp only [tokN]
  rw [if_neg z0b,if_pos hb]
theorem TkI.rem (h:TkI s F i f l) (hi:i < s.size) (hb:blankN (byteN s i)=false) (hr:remN s i=true):∃ f',TkI s F (remE s i) f' l:=by
 have hf:=h.fu
 have hp:byteN s i=47:=by
  unfold remN at hr
  rw [Bool.and_eq_true] at hr
  exact of_decide_eq_true hr.1
 have hg:i+1≤remE s i:=by
  unfold remE
  rw [runE_step hi (by rw [hp];rfl)]
  exact runE_ge
 have hle:remE s i≤s.size:=runE_le h.le
 cases f with
 | zero=>omega
 | succ f=>
  refine ⟨f,?_,by omega,hle,by have:=h.ln;omega⟩
  rw [h.e]
  simp only [tokN]
  rw [if_neg z0b,if_neg z0r,if_pos hr]
theorem TkI.word (h:TkI s F i f l) (hi:i < s.size) (hb:blankN (byteN s i)=false) (hr:remN s i=false) (hc:letterN (byteN s i)=true):∃ f',TkI s F (wordE s i) f' (l ++ [(1,s.extract i (wordE s i))]):=by
 have hf:=h.fu
 have hg:i+1≤wordE s i:=runE_ge
 have hle:wordE s i≤s.size:=runE_le hi
 cases f with
 | zero=>omega
 | succ f=>
  refine ⟨f,?_,by omega,hle,by have:=h.ln;rw [List.length_append];simp;omega⟩
  rw [h.e]
  simp only [tokN]
  rw [if_neg z0b,if_neg z0r,if_neg z0b1,if_pos hc,map_cons]
theorem TkI.digN (h:TkI s F i f l) (hi:i < s.size) (hb:blankN (byteN s i)=false) (hr:remN s i=false) (hc:letterN (byteN s i)=false) (hd:digitN (byteN s i)=true) (hx:9 < digE s i - i∨(byteN s i=48∧1 < digE s i - i)):tokN s F 0=none:=by
 have hf:=h.fu
 cases f with
 | zero=>omega
 | succ f=>
  rw [h.e]
  simp only [tokN]
  rw [if_neg z0b,if_neg z0r,if_neg z0b1,if_neg (by rw [hc];exact Bool.false_ne_true),if_pos hd,if_pos hx]
  rfl
theorem TkI.dig (h:TkI s F i f l) (hi:i < s.size) (hb:blankN (byteN s i)=false) (hr:remN s i=false) (hc:letterN (byteN s i)=false) (hd:digitN (byteN s i)=true) (hx:¬ (9 < digE s i - i∨(byteN s i=48∧1 < digE s i - i))):∃ f',TkI s F (digE s i) f' (l ++ [(2,s.extract i (digE s i))]):=by
 have hf:=h.fu
 have hg:i+1≤digE s i:=runE_ge
 have hle:digE s i≤s.size:=runE_le hi
 cases f with
 | zero=>omega
 | succ f=>
  refine ⟨f,?_,by omega,hle,by have:=h.ln;rw [List.length_append];simp;omega⟩
  rw [h.e]
  simp only [tokN]
  rw [if_neg z0b,if_neg z0r,if_neg z0b1,if_neg (by rw [hc];exact Bool.false_ne_true),if_pos hd,if_neg hx,map_cons]
theorem TkI.quoN (h:TkI s F i f l) (hi:i < s.size) (hb:blankN (byteN s i)=false) (hr:remN s i=false) (hc:letterN (byteN s i)=false) (hd:digitN (byteN s i)=false) (hq:byteN s i=34) (hx:quoE s i=s.size∨named (s.extract (i+1) (quoE s i))=false):tokN s F 0=none:=by
 have hf:=h.fu
 cases f with
 | zero=>omega
 | succ f=>
  rw [h.e]
  simp only [tokN]
  rw [if_neg z0b,if_neg z0r,if_neg z0b1,if_neg (by rw [hc];exact Bool.false_ne_true),if_neg (by rw [hd];exact Bool.false_ne_true),if_pos hq,if_pos hx]
  rfl
theorem TkI.quo (h:TkI s F i f l) (hi:i < s.size) (hb:blankN (byteN s i)=false) (hr:remN s i=false) (hc:letterN (byteN s i)=false) (hd:digitN (byteN s i)=false) (hq:byteN s i=34) (hx:¬ (quoE s i=s.size∨named (s.extract (i+1) (quoE s i))=false)):∃ f',TkI s F (quoE s i+1) f' (l ++ [(3,s.extract (i+1) (quoE s i))]):=by
 have hf:=h.fu
 have hg:i+1≤quoE s i:=runE_ge
 have hle:quoE s i≤s.size:=runE_le hi
 cases f with
 | zero=>omega
 | succ f=>
  refine ⟨f,?_,by omega,by omega,by have:=h.ln;rw [List.length_append];simp;omega⟩
  rw [h.e]
  simp only [tokN]
  rw [if_neg z0b,if_neg z0r,if_neg z0b1,if_neg (by rw [hc];exact Bool.false_ne_true),if_neg (by rw [hd];exact Bool.false_ne_true),if_pos hq,if_neg hx,map_cons]
theorem TkI.sign (h:TkI s F i f l) (hi:i < s.size) (hb:blankN (byteN s i)=false) (hr:remN s i=false) (hc:letterN (byteN s i)=false) (hd:digitN (byteN s i)=false) (hq:¬ byteN s i=34) (hs:signN (byteN s i)=true):∃ f',TkI s F (i+1) f' (l ++ [(4,s.extract i (i+1))]):=by
 have hf:=h.fu
 cases f with
 | zero=>omega
 | succ f=>
  refine ⟨f,?_,by omega,by omega,by have:=h.ln;rw [List.length_append];simp;omega⟩
  rw [h.e]
  simp only [tokN]
  rw [if_neg z0b,if_neg z0r,if_neg z0b1,if_neg (by rw [hc];exact Bool.false_ne_true),if_neg (by rw [hd];exact Bool.false_ne_true),if_neg hq,if_pos hs,map_cons]
theorem TkI.none (h:TkI s F i f l) (hi:i < s.size) (hb:blankN (byteN s i)=false) (hr:remN s i=false) (hc:letterN (byteN s i)=false) (hd:digitN (byteN s i)=false) (hq:¬ byteN s i=34) (hs:signN (byteN s i)=false):tokN s F 0=.none:=by
 have hf:=h.fu
 cases f with
 | zero=>omega
 | succ f=>
  rw [h.e]
  simp only [tokN]
  rw [if_neg z0b,if_neg z0r,if_neg z0b1,if_neg (by rw [hc];exact Bool.false_ne_true),if_neg (by rw [hd];exact Bool.false_ne_true),if_neg hq,if_neg (by rw [hs];exact Bool.false_ne_true)]
  rfl
end
end Go.Proofs.YtfondldmmcmloaaDoor
