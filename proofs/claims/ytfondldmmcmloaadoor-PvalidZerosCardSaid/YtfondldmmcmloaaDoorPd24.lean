/- LdA, LdB, LdC, LdE. -/
import Derived.Test.YtfondldmmcmloaaDoorPd23
set_option maxRecDepth 1000000
set_option maxHeartbeats 8000000
namespace Go.Proofs.YtfondldmmcmloaaDoor
open Go Go.RowKit
def atI (w:World) (B:Nat):Nat:=(intOf ((w.cell? ⟨B,1,none⟩).getD undef)).toNat
def LenI (n:Nat) (r:Rd) (m:MB):Prop:=r.i≤n∧m.N.length≤r.i+(if r.bad=true then 1 else 0)∧m.S.length≤r.i+(if r.bad=true then 1 else 0)∧m.F.length≤r.i+(if r.bad=true then 1 else 0)
theorem LenI.take {K:Nat→Int} {S:Nat→ByteArray} {n:Nat} {r:Rd} {m:MB} (h:LenI n r m) (k:Int) (hk:k≠0) (s:ByteArray):LenI n (r.take K S n k s) m:=by
 obtain ⟨h1,h2,h3,h4⟩:=h
 refine ⟨rd_take_le hk h1,?_⟩
 show m.N.length≤takeI K S n r.i r.bad k s+(if (!isB K S n r.i r.bad k s)=true then 1 else 0)∧m.S.length≤takeI K S n r.i r.bad k s+(if (!isB K S n r.i r.bad k s)=true then 1 else 0)∧m.F.length≤takeI K S n r.i r.bad k s+(if (!isB K S n r.i r.bad k s)=true then 1 else 0)
 unfold takeI
 cases hi:isB K S n r.i r.bad k s with
 | true=>
  simp only [if_true,Bool.not_true,Bool.false_eq_true,if_false]
  split at h2 <;> split at h3 <;> split at h4 <;> omega
 | false=>
  simp only [if_true,Bool.not_false,Bool.false_eq_true,if_false]
  split at h2 <;> split at h3 <;> split at h4 <;> omega
theorem PBx.same {w w1:World} {B:Nat} {a:Option Addr} {n c i:Nat} {bad:Bool} (h:PBx w B a n c i bad) (hk:w1.heap[B]? = w.heap[B]?):PBx w1 B a n c i bad:=
 ⟨⟨(World.cell?_of_block (a:=⟨B,0,none⟩) hk).trans h.c.1,(World.cell?_of_block (a:=⟨B,1,none⟩) hk).trans h.c.2.1,(World.cell?_of_block (a:=⟨B,2,none⟩) hk).trans h.c.2.2⟩,fun j=>(World.frozen?_of_block (a:=⟨B,j,none⟩) hk).trans (h.f j)⟩
theorem atI_of {w:World} {B:Nat} {a:Option Addr} {n c i:Nat} {bad:Bool} (h:PBx w B a n c i bad):atI w B=i:=by
 unfold atI
 rw [h.c.2.1]
 rfl
section
variable {K:Nat→Int} {S:Nat→ByteArray} {n:Nat} {r:Rd} {m m':MB}
theorem pass_i {k:Int} {s:ByteArray} (h:r.is K S n k s=true):(r.pass K S n k s).i=r.i+1:=if_pos h
theorem pass_ge (r:Rd) (k:Int) (s:ByteArray):r.i≤(r.pass K S n k s).i:=by
 show r.i≤if isB K S n r.i r.bad k s=true then r.i+1 else r.i
 split <;> omega
theorem take_ge (r:Rd) (k:Int) (s:ByteArray):r.i≤(r.take K S n k s).i:=pass_ge r k s
theorem word_ge (r:Rd) (k:Int):r.i≤(r.word K n k).i:=by
 show r.i≤if wordB K n r.i r.bad k=true then r.i+1 else r.i
 split <;> omega
theorem take_ok {k:Int} {s:ByteArray} (h:(r.take K S n k s).bad=false):r.bad=false∧(r.take K S n k s).i=r.i+1:=by
 have h1:(!isB K S n r.i r.bad k s)=false:=h
 have h2:isB K S n r.i r.bad k s=true:=by simpa using h1
 refine ⟨?_,if_pos h2⟩
 unfold isB at h2
 cases hb:r.bad with
 | true=>rw [hb] at h2;simp at h2
 | false=>rfl
theorem word_ok {k:Int} (h:(r.word K n k).bad=false):r.bad=false∧(r.word K n k).i=r.i+1:=by
 have h1:(!wordB K n r.i r.bad k)=false:=h
 have h2:wordB K n r.i r.bad k=true:=by simpa using h1
 refine ⟨?_,if_pos h2⟩
 unfold wordB at h2
 cases hb:r.bad with
 | true=>rw [hb] at h2;simp at h2
 | false=>rfl
theorem LenI.mono {r':Rd} (h:LenI n r m) (hi:r.i≤r'.i) (hn:r'.i≤n) (hb:r'.bad=false→r.bad=false):LenI n r' m:=by
 obtain ⟨h1,h2,h3,h4⟩:=h
 unfold LenI
 cases hq:r'.bad with
 | true=>
  rw [if_pos rfl]
  split at h2 <;> split at h3 <;> split at h4 <;> exact ⟨hn,by omega,by omega,by omega⟩
 | false=>
  have e:=hb hq
  rw [e] at h2 h3 h4
  simp only [Bool.false_eq_true,if_false] at h2 h3 h4 ⊢
  exact ⟨hn,by omega,by omega,by omega⟩
theorem LenI.pass (h:LenI n r m) (k:Int) (hk:k≠0) (s:ByteArray):LenI n (r.pass K S n k s) m:=h.mono (pass_ge r k s) (rd_take_le hk h.1) id
theorem LenI.more {r':Rd} (h:LenI n r m) (hb:r.bad=false) (hi:r.i≤r'.i) (hn:r'.i≤n) (hg:r'.bad=false→r.i+1≤r'.i) (hN:m'.N.length≤m.N.length+1) (hS:m'.S.length≤m.S.length+1) (hF:m'.F.length≤m.F.length+1):LenI n r' m':=by
 obtain ⟨h1,h2,h3,h4⟩:=h
 rw [hb] at h2 h3 h4
 simp only [Bool.false_eq_true,if_false] at h2 h3 h4
 unfold LenI
 cases hq:r'.bad with
 | true=>rw [if_pos rfl];exact ⟨hn,by omega,by omega,by omega⟩
 | false=>
  have:=hg hq
  simp only [Bool.false_eq_true,if_false]
  exact ⟨hn,by omega,by omega,by omega⟩
theorem LenI.word (h:LenI n r m) (hb:r.bad=false) (k:Int) (hk:k≠0) (hN:m'.N.length≤m.N.length+1) (hS:m'.S.length≤m.S.length+1) (hF:m'.F.length≤m.F.length+1):LenI n (r.word K n k) m':=
 h.more hb (word_ge r k) (rd_word_le hk h.1) (fun e=>by rw [(word_ok e).2];exact Nat.le_refl _) hN hS hF
theorem resL_go (q:Bool) (f:Nat) (hb:r.bad=false):resL K S n q (f+1) r m =
  if (r.word K n (if q=true then 3 else 2)).is K S n 4 ⟨#[44]⟩=true then resL K S n q f ((r.word K n (if q=true then 3 else 2)).pass K S n 4 ⟨#[44]⟩) (if q=true then { m with S:=m.S ++ [r.text K S n 3] } else { m with N:=m.N ++ [r.num K S n] })
  else (r.word K n (if q=true then 3 else 2),if q=true then { m with S:=m.S ++ [r.text K S n 3] } else { m with N:=m.N ++ [r.num K S n] }):=by
 show (if r.bad=true then _ else _)=_
 rw [if_neg z0r]
end
structure FdI (w:World) (B:Nat) (a:Option Addr) (n c:Nat) (wx:World) (r:Rd) (f:PF):Prop where
 b:But B B w wx
 p:PBx wx B a n c r.i r.bad
 f:SxF wx w.heap.size (.string f.name) (.string f.type) (.int .i64 f.number) (.bool f.opt) (.bool f.rep) (.bool f.map)
 lt:B < w.heap.size
section
variable {w wx wy:World} {B:Nat} {a:Option Addr} {n c:Nat} {r r':Rd} {f:PF}
theorem SxF.lt {w:World} {B:Nat} {a0 a1 a2 a3 a4 a5:Value} (h:SxF w B a0 a1 a2 a3 a4 a5):B < w.heap.size:=World.block_lt_of_cell? w ⟨B,0,none⟩ h.c.1
theorem FdI.step (h:FdI w B a n c wx r f) (hp:PBx wy B a n c r'.i r'.bad) (hk:But B B wx wy):FdI w B a n c wy r' f:=by
 have hl:=h.f.lt
 have hB:=h.lt
 have hne:w.heap.size≠B:=by omega
 obtain ⟨⟨h0,h1,h2,h3,h4,h5⟩,hf⟩:=h.f
 have e:∀ (j:Nat) {u:Value},wx.cell? ⟨w.heap.size,j,none⟩=some u→wy.cell? ⟨w.heap.size,j,none⟩=some u:=fun j _ hc=>hk.cell (p:=⟨w.heap.size,j,none⟩) hne hne hc
 exact ⟨h.b.trans2 hk,hp,⟨⟨e 0 h0,e 1 h1,e 2 h2,e 3 h3,e 4 h4,e 5 h5⟩,fun j=>by rw [hk.frozen (p:=⟨w.heap.size,j,none⟩) hl hne hne];exact hf j⟩,hB⟩
theorem FdI.low (h:FdI w B a n c wx r f) (hb:Below wx.heap.size wx wy):FdI w B a n c wy r f:=h.step (h.p.below hb) (But.of hb)
theorem PBx.far {M j:Nat} {x:Value} {i:Nat} {bad:Bool} (h:PBx w B a n c i bad) (hM:M≠B):PBx (w.setCell ⟨M,j,none⟩ x) B a n c i bad:=
 h.same (block_setCell (fun e=>hM e.symm))
theorem PBx.goto {i:Nat} {bad:Bool} (h:PBx w B a n c i bad) (j:Nat):PBx (w.setCell ⟨B,1,none⟩ (.int .i64 (j:Nat))) B a n c j bad:=
 ⟨⟨set_far z0c h.c.1,World.cell?_setCell_same _ _ _ h.c.2.1,set_far z0c h.c.2.2⟩,fun k=>by rw [World.frozen?_setCell];exact h.f k⟩
theorem FdI.setName (h:FdI w B a n c wx r f) (x:ByteArray):FdI w B a n c (wx.setCell ⟨w.heap.size,0,none⟩ (.string x)) r { f with name:=x }:=by
 have hB:=h.lt
 obtain ⟨⟨h0,h1,h2,h3,h4,h5⟩,hf⟩:=h.f
 exact ⟨set_but h.b _ (Nat.le_refl _),h.p.far z0b,⟨⟨World.cell?_setCell_same _ _ _ h0,set_far z0c h1,set_far z0c h2,set_far z0c h3,set_far z0c h4,set_far z0c h5⟩,fun k=>by rw [World.frozen?_setCell];exact hf k⟩,hB⟩
theorem FdI.setType (h:FdI w B a n c wx r f) (x:ByteArray):FdI w B a n c (wx.setCell ⟨w.heap.size,1,none⟩ (.string x)) r { f with type:=x }:=by
 have hB:=h.lt
 obtain ⟨⟨h0,h1,h2,h3,h4,h5⟩,hf⟩:=h.f
 exact ⟨set_but h.b _ (Nat.le_refl _),h.p.far z0b,⟨⟨set_far z0c h0,World.cell?_setCell_same _ _ _ h1,set_far z0c h2,set_far z0c h3,set_far z0c h4,set_far z0c h5⟩,fun k=>by rw [World.frozen?_setCell];exact hf k⟩,hB⟩
theorem FdI.setNum (h:FdI w B a n c wx r f) (x:Int):FdI w B a n c (wx.setCell ⟨w.heap.size,2,none⟩ (.int .i64 x)) r { f with number:=x }:=by
 have hB:=h.lt
 obtain ⟨⟨h0,h1,h2,h3,h4,h5⟩,hf⟩:=h.f
 exact ⟨set_but h.b _ (Nat.le_refl _),h.p.far z0b,⟨⟨set_far z0c h0,set_far z0c h1,World.cell?_setCell_same _ _ _ h2,set_far z0c h3,set_far z0c h4,set_far z0c h5⟩,fun k=>by rw [World.frozen?_setCell];exact hf k⟩,hB⟩
theorem FdI.setOpt (h:FdI w B a n c wx r f) (x:Bool):FdI w B a n c (wx.setCell ⟨w.heap.size,3,none⟩ (.bool x)) r { f with opt:=x }:=by
 have hB:=h.lt
 obtain ⟨⟨h0,h1,h2,h3,h4,h5⟩,hf⟩:=h.f
 exact ⟨set_but h.b _ (Nat.le_refl _),h.p.far z0b,⟨⟨set_far z0c h0,set_far z0c h1,set_far z0c h2,World.cell?_setCell_same _ _ _ h3,set_far z0c h4,set_far z0c h5⟩,fun k=>by rw [World.frozen?_setCell];exact hf k⟩,hB⟩
theorem FdI.setRep (h:FdI w B a n c wx r f) (x:Bool):FdI w B a n c (wx.setCell ⟨w.heap.size,4,none⟩ (.bool x)) r { f with rep:=x }:=by
 have hB:=h.lt
 obtain ⟨⟨h0,h1,h2,h3,h4,h5⟩,hf⟩:=h.f
 exact ⟨set_but h.b _ (Nat.le_refl _),h.p.far z0b,⟨⟨set_far z0c h0,set_far z0c h1,set_far z0c h2,set_far z0c h3,World.cell?_setCell_same _ _ _ h4,set_far z0c h5⟩,fun k=>by rw [World.frozen?_setCell];exact hf k⟩,hB⟩
theorem FdI.setMap (h:FdI w B a n c wx r f) (x:Bool):FdI w B a n c (wx.setCell ⟨w.heap.size,5,none⟩ (.bool x)) r { f with map:=x }:=by
 have hB:=h.lt
 obtain ⟨⟨h0,h1,h2,h3,h4,h5⟩,hf⟩:=h.f
 exact ⟨set_but h.b _ (Nat.le_refl _),h.p.far z0b,⟨⟨set_far z0c h0,set_far z0c h1,set_far z0c h2,set_far z0c h3,set_far z0c h4,World.cell?_setCell_same _ _ _ h5⟩,fun k=>by rw [World.frozen?_setCell];exact hf k⟩,hB⟩
theorem FdI.goto (h:FdI w B a n c wx r f) (j:Nat):FdI w B a n c (wx.setCell ⟨B,1,none⟩ (.int .i64 (j:Nat))) ⟨j,r.bad⟩ f:=by
 have hB:=h.lt
 obtain ⟨⟨h0,h1,h2,h3,h4,h5⟩,hf⟩:=h.f
 have hne:w.heap.size≠B:=by omega
 exact ⟨h.b.set1,h.p.goto j,⟨⟨set_far z0c h0,set_far z0c h1,set_far z0c h2,set_far z0c h3,set_far z0c h4,set_far z0c h5⟩,fun k=>by rw [World.frozen?_setCell];exact hf k⟩,hB⟩
end
def pf0:PF:={ name:=⟨#[]⟩,type:=⟨#[]⟩,number:=0,opt:=false,rep:=false,map:=false }
theorem fdi_new {w:World} {B:Nat} {a:Option Addr} {n c:Nat} {r:Rd} (h:PBx w B a n c r.i r.bad) (t:TypeId) :
  FdI w B a n c (w.alloc (.cells #[.string ⟨#[]⟩,.string ⟨#[]⟩,.int .i64 0,.bool false,.bool false,.bool false] t)) r pf0:=
 ⟨But.of (below_alloc (Below.refl _ _) _),h.below (below_alloc (Below.refl _ _) _),sxf_new _ _ _ _ _ _ _ _,h.lt⟩
section
variable {K:Nat→Int} {S:Nat→ByteArray} {n:Nat} {r:Rd} {m:MB}
theorem eqT_lt {j:Nat} {k:Int} {s:ByteArray} (hk:k≠0) (h:eqT (tokK K n j) (tokS S n j) k s=true):j < n:=by
 unfold eqT at h
 rw [Bool.and_eq_true] at h
 have e:=eq_of_beq h.1
 unfold tokK at e
 split at e
 ·assumption
 ·exact absurd e.symm hk
theorem headT_le (h:r.i≤n):r.i≤(headT K S n r).1.i∧(headT K S n r).1.i≤n:=by
 unfold headT
 split
 ·next hc=>
  have h1:=eqT_lt z0g hc.2
  have g0:r.i+2≤n:=by omega
  refine ⟨?_,rd_take_le z0g (rd_word_le z0g (rd_take_le (r:=Rd.take K S n ⟨r.i+2,r.bad⟩ 1 ⟨#[115,116,114,105,110,103]⟩) z0g (rd_take_le (r:=⟨r.i+2,r.bad⟩) z0g g0)))⟩
  refine Nat.le_trans (Nat.le_trans (Nat.le_trans (Nat.le_trans (Nat.le_add_right r.i 2) (take_ge (K:=K) (S:=S) (n:=n) ⟨r.i+2,r.bad⟩ 1 ⟨#[115,116,114,105,110,103]⟩)) (take_ge _ 4 ⟨#[44]⟩)) (word_ge _ 1)) (take_ge _ 4 ⟨#[62]⟩)
 ·have e1:r.i≤(r.pass K S n 1 ⟨#[111,112,116,105,111,110,97,108]⟩).i:=pass_ge _ _ _
  have e2:(r.pass K S n 1 ⟨#[111,112,116,105,111,110,97,108]⟩).i≤n:=rd_take_le z0g h
  constructor
  ·refine Nat.le_trans ?_ (word_ge _ 1)
   split
   ·exact e1
   ·exact Nat.le_trans e1 (pass_ge _ _ _)
  ·refine rd_word_le z0g ?_
   split
   ·exact e2
   ·exact rd_take_le z0g e2
theorem fieldT_len (h:LenI n r m) (hb:r.bad=false):LenI n (fieldT K S n r m).1 (fieldT K S n r m).2:=by
 obtain ⟨g1,g2⟩:=headT_le (K:=K) (S:=S) h.1
 have p1:=word_ge (K:=K) (n:=n) (headT K S n r).1 1
 have p2:=take_ge (K:=K) (S:=S) (n:=n) ((headT K S n r).1.word K n 1) 4 ⟨#[61]⟩
 have p3:=word_ge (K:=K) (n:=n) (((headT K S n r).1.word K n 1).take K S n 4 ⟨#[61]⟩) 2
 have p4:=take_ge (K:=K) (S:=S) (n:=n) ((((headT K S n r).1.word K n 1).take K S n 4 ⟨#[61]⟩).word K n 2) 4 ⟨#[59]⟩
 have q1:=rd_word_le (K:=K) (k:=1) z0g g2
 have q2:=rd_take_le (K:=K) (S:=S) (r:=(headT K S n r).1.word K n 1) (k:=4) (s:=⟨#[61]⟩) z0g q1
 have q3:=rd_word_le (K:=K) (r:=((headT K S n r).1.word K n 1).take K S n 4 ⟨#[61]⟩) (k:=2) z0g q2
 have q4:=rd_take_le (K:=K) (S:=S) (r:=(((headT K S n r).1.word K n 1).take K S n 4 ⟨#[61]⟩).word K n 2) (k:=4) (s:=⟨#[59]⟩) z0g q3
 refine h.more hb (by show r.i≤((((headT K S n r).1.word K n 1).take K S n 4 ⟨#[61]⟩).word K n 2 |>.take K S n 4 ⟨#[59]⟩).i;omega) q4 (fun e=>?_) (Nat.le_succ _) (Nat.le_succ _) (by show (m.F ++ [_]).length≤_;rw [List.length_append];exact Nat.le_refl _)
 have e:=(take_ok (r:=(((headT K S n r).1.word K n 1).take K S n 4 ⟨#[61]⟩).word K n 2) e).2
 show r.i+1≤((((headT K S n r).1.word K n 1).take K S n 4 ⟨#[61]⟩).word K n 2 |>.take K S n 4 ⟨#[59]⟩).i
 omega
end
structure MR where
 m:MB
 vF:Value
 vN:Value
 vS:Value
def MR.cells (x:MR):List Value:=[.string x.m.name,x.vF,x.vN,x.vS]
def rowMR (l:List MR):List Value:=l.flatMap MR.cells
theorem rowMR_snoc (l:List MR) (x:MR):rowMR (l ++ [x])=rowMR l ++ x.cells:=by simp [rowMR]
structure MR.At (b:Nat) (w:World) (x:MR):Prop where
 oF:w.ownsRow b 70 6 x.vF x.m.F.length (rowPF x.m.F)
 oN:w.ownsRow b 3 1 x.vN x.m.N.length (rowPN x.m.N)
 oS:w.ownsRow b 9 1 x.vS x.m.S.length (rowPS x.m.S)
structure OutI (wp:World) (B:Nat) (w:World) (v:Value) (l:List MR):Prop where
 b:But B B wp w
 lt:B < wp.heap.size
 o:w.ownsRow wp.heap.size 55 4 v l.length (rowMR l)
 k:∀ x ∈ l,x.At wp.heap.size w
section
variable {wp w w1 wA:World} {B:Nat} {v v1:Value} {l:List MR}
theorem own_low {b b':Nat} {e:TypeId} {s n:Nat} {v:Value} {xs:List Value} (h:w.ownsRow b' e s v n xs) (hb:b≤b'):w.ownsRow b e s v n xs:=by
 refine ⟨h.1,?_⟩
 rcases h.2 with hn|⟨g,cap,cur,rfl,h1,rest⟩
 ·exact .inl hn
 ·exact .inr ⟨g,cap,cur,rfl,Nat.le_trans hb h1,rest⟩
theorem OutI.but (h:OutI wp B w v l) (k:But B B w w1):OutI wp B w1 v l:=
 ⟨h.b.trans2 k,h.lt,row_but h.o k h.lt h.lt,fun x hx=>⟨row_but (h.k x hx).oF k h.lt h.lt,row_but (h.k x hx).oN k h.lt h.lt,row_but (h.k x hx).oS k h.lt h.lt⟩⟩
theorem MR.At.ap {x:MR} {b b' n no:Nat} {xs xo:List Value} (h:x.At b w) (hA:Ap1 w wA b' 55 4 v v1 n xs) (hv:w.ownsRow b' 55 4 v no xo):x.At b wA:=
 ⟨hA.row hv h.oF z0g,hA.row hv h.oN z0g,hA.row hv h.oS z0g⟩
theorem OutI.push (h:OutI wp B w v l) (x:MR) (hx:x.At wp.heap.size w) (hA:Ap1 w wA wp.heap.size 55 4 v v1 (l.length+1) (rowMR l ++ x.cells)):OutI wp B wA v1 (l ++ [x]):=by
 refine ⟨hA.but h.o h.b (Nat.le_refl _),h.lt,by rw [List.length_append,rowMR_snoc];exact hA.o,fun y hy=>?_⟩
 rcases List.mem_append.1 hy with hy|hy
 ·exact (h.k y hy).ap hA h.o
 ·rw [List.mem_singleton] at hy
  subst hy
  exact hx.ap hA h.o
end
structure MB.Ok (m:MB):Prop where
 n:m.name.size≤maxLen
 f:∀ f ∈ m.F,f.Ok
 k:∀ x ∈ m.N,x < 9223372036854775808
 s:∀ x ∈ m.S,x.size≤maxLen
structure Ad6 where
 aF:Option Addr
 cF:Nat
 aN:Option Addr
 cN:Nat
 aS:Option Addr
 cS:Nat
instance:Inhabited Ad6:=⟨⟨none,0,none,0,none,0⟩⟩
def pmOf (m:MB) (A:Ad6):PM:=⟨m.name,A.aF,m.F.length,A.cF,fun i=>m.F.getD i default,A.aN,m.N.length,A.cN,fun i=>((m.N.getD i 0:Nat):Int),A.aS,m.S.length,A.cS,fun i=>m.S.getD i ⟨#[]⟩⟩
def mb0:MB:=⟨⟨#[]⟩,[],[],[]⟩
def pmsOf (L:List MB) (A:Nat→Ad6) (i:Nat):PM:=pmOf (L.getD i mb0) (A i)
theorem map_flat {α:Type} (f:α→Value) (l:List α):l.map f=l.flatMap fun x=>[f x]:=by
 induction l with
 | nil=>rfl
 | cons x l ih=>rw [List.map_cons,List.flatMap_cons,ih];rfl
theorem getD_at {α:Type} {l:List α} {d:α} {i:Nat} (hi:i < l.length):l.getD i d=l[i]:=by
 rw [List.getD_eq_getElem?_getD,List.getElem?_eq_getElem hi]
 rfl
theorem MR.At.pm {b:Nat} {w:World} {x:MR} (h:x.At b w) (ho:x.m.Ok):∃ A:Ad6,(pmOf x.m A).In w∧(pmOf x.m A).cells=x.cells:=by
 obtain ⟨aF,cF,eF,lF1,lF2,-,hF⟩:=row_flat PF.cells (fun _=>rfl) x.m.F h.oF
 have hN0:=h.oN
 have hS0:=h.oS
 unfold rowPN at hN0
 unfold rowPS at hS0
 rw [map_flat] at hN0 hS0
 obtain ⟨aN,cN,eN,lN1,lN2,-,hN⟩:=row_flat (fun x:Nat=>[Value.int .i64 (x:Nat)]) (fun _=>rfl) x.m.N hN0
 obtain ⟨aS,cS,eS,lS1,lS2,-,hS⟩:=row_flat (fun x:ByteArray=>[Value.string x]) (fun _=>rfl) x.m.S hS0
 refine ⟨⟨aF,cF,aN,cN,aS,cS⟩,⟨ho.n,⟨lF1,lF2,?_,fun i hi=>?_⟩,⟨lN1,lN2,?_⟩,⟨lS1,lS2,?_⟩⟩,?_⟩
 ·rcases hF with h0|⟨g,e,hg,hc⟩
  ·exact .inl h0
  ·refine .inr ⟨g,0,e,hg,fun i hi j hj=>?_⟩
   show w.cell? ⟨g,0+i * 6+j,none⟩=(x.m.F.getD i default).cells[j]?
   rw [getD_at hi,Nat.zero_add]
   exact hc i hi j hj
 ·show (x.m.F.getD i default).Ok
  have hi:i < x.m.F.length:=hi
  rw [getD_at hi]
  exact ho.f _ (List.getElem_mem hi)
 ·rcases hN with h0|⟨g,e,hg,hc⟩
  ·exact .inl h0
  ·refine .inr ⟨g,0,e,hg,fun i hi=>?_⟩
   have hi:i < x.m.N.length:=hi
   have h1:=hc i hi 0 Nat.zero_lt_one
   have h2:=ho.k _ (List.getElem_mem hi)
   show w.cell? ⟨g,0+i,none⟩=some (.int .i64 ((x.m.N.getD i 0:Nat):Int)) ∧ -9223372036854775808≤((x.m.N.getD i 0:Nat):Int)∧((x.m.N.getD i 0:Nat):Int) < 9223372036854775808
   rw [getD_at hi,Nat.zero_add]
   rw [Nat.mul_one,Nat.add_zero] at h1
   exact ⟨h1,by omega,by omega⟩
 ·rcases hS with h0|⟨g,e,hg,hc⟩
  ·exact .inl h0
  ·refine .inr ⟨g,0,e,hg,fun i hi=>?_⟩
   have hi:i < x.m.S.length:=hi
   have h1:=hc i hi 0 Nat.zero_lt_one
   show w.cell? ⟨g,0+i,none⟩=some (.string (x.m.S.getD i ⟨#[]⟩))∧(x.m.S.getD i ⟨#[]⟩).size≤maxLen
   rw [getD_at hi,Nat.zero_add]
   rw [Nat.mul_one,Nat.add_zero] at h1
   exact ⟨h1,ho.s _ (List.getElem_mem hi)⟩
 ·show [Value.string x.m.name,.slice aF x.m.F.length cF,.slice aN x.m.N.length cN,.slice aS x.m.S.length cS]=[Value.string x.m.name,x.vF,x.vN,x.vS]
  rw [eF,eN,eS]
theorem OutI.pl {wp w:World} {B:Nat} {v:Value} {l:List MR} (h:OutI wp B w v l) (ho:∀ x ∈ l,x.m.Ok):∃ a c A,v=.slice a l.length c∧PL w a l.length c (pmsOf (l.map MR.m) A):=by
 have hp:∀ i,∃ A:Ad6,∀ hi:i < l.length,(pmOf l[i].m A).In w∧(pmOf l[i].m A).cells=l[i].cells:=by
  intro i
  by_cases hi:i < l.length
  ·obtain ⟨A,hA⟩:=(h.k _ (List.getElem_mem hi)).pm (ho _ (List.getElem_mem hi))
   exact ⟨A,fun _=>hA⟩
  ·exact ⟨default,fun c=>absurd c hi⟩
 have hg:∀ i (hi:i < l.length),pmsOf (l.map MR.m) (fun i=>(hp i).choose) i=pmOf l[i].m (hp i).choose:=fun i hi=>by
  unfold pmsOf
  rw [getD_at (by simpa using hi),List.getElem_map]
 obtain ⟨a,c,e,l1,l2,-,hc⟩:=row_flat MR.cells (fun _=>rfl) l h.o
 refine ⟨a,c,fun i=>(hp i).choose,e,⟨l1,l2,?_,fun i hi=>by rw [hg i hi];exact ((hp i).choose_spec hi).1⟩⟩
 rcases hc with h0|⟨g,e1,hg2,h2⟩
 ·exact .inl h0
 ·exact .inr ⟨g,0,e1,hg2,fun i hi j hj=>by
   rw [hg i hi,((hp i).choose_spec hi).2,Nat.zero_add]
   exact h2 i hi j hj⟩
section
variable {K:Nat→Int} {S:Nat→ByteArray} {n:Nat}
theorem text_le (hS:∀ i,(S i).size≤maxLen) (r:Rd) (k:Int):(r.text K S n k).size≤maxLen:=by
 unfold Rd.text tokS
 split
 ·split
  ·exact hS _
  ·exact Nat.zero_le _
 ·exact Nat.zero_le _
theorem num_lt (hD:DigT K S n) (r:Rd):r.num K S n < 1000000000:=by
 obtain ⟨h1,h2⟩:=rd_digits hD r
 have:=valN_lt (s:=r.text K S n 2) (k:=(r.text K S n 2).size) fun j hj=>(h2 j hj).2
 have h3:(10:Nat) ^ (r.text K S n 2).size≤10 ^ 9:=Nat.pow_le_pow_right z0b h1
 show valN _ _ < _
 omega
theorem resL_ok (hS:∀ i,(S i).size≤maxLen) (hD:DigT K S n) (q:Bool):∀ (f:Nat) (r:Rd) (m:MB),m.Ok→(resL K S n q f r m).2.Ok:=by
 intro f
 induction f with
 | zero=>exact fun r m h=>h
 | succ f ih=>
  intro r m h
  cases hb:r.bad with
  | true=>
   show (if r.bad=true then (r,m) else _).2.Ok
   rw [if_pos hb]
   exact h
  | false=>
   rw [resL_go q f hb]
   obtain ⟨k,hk⟩:∃ k:Int,(if q=true then (3:Int) else 2)=k:=⟨_,rfl⟩
   obtain ⟨m',hm'⟩:∃ m':MB,(if q=true then { m with S:=m.S ++ [r.text K S n 3] } else { m with N:=m.N ++ [r.num K S n] })=m':=⟨_,rfl⟩
   rw [hk,hm']
   have hm:m'.Ok:=by
    rw [← hm']
    split
    ·refine ⟨h.n,h.f,h.k,fun x hx=>?_⟩
     rcases List.mem_append.1 hx with hx|hx
     ·exact h.s x hx
     ·rw [List.mem_singleton] at hx;subst hx;exact text_le hS _ _
    ·refine ⟨h.n,h.f,fun x hx=>?_,h.s⟩
     rcases List.mem_append.1 hx with hx|hx
     ·exact h.k x hx
     ·rw [List.mem_singleton] at hx;subst hx;have:=num_lt hD r;omega
   split
   ·exact ih _ _ hm
   ·exact hm
theorem fieldT_ok (hS:∀ i,(S i).size≤maxLen) (hD:DigT K S n) (r:Rd) (m:MB) (h:m.Ok):(fieldT K S n r m).2.Ok:=by
 refine ⟨h.n,fun x hx=>?_,h.k,h.s⟩
 rcases List.mem_append.1 hx with hx|hx
 ·exact h.f x hx
 ·rw [List.mem_singleton] at hx
  subst hx
  have h1:=num_lt hD (((headT K S n r).1.word K n 1).take K S n 4 ⟨#[61]⟩)
  have h2:((headT K S n r).2.type).size≤maxLen:=by
   unfold headT
   split
   ·exact text_le hS _ _
   ·exact text_le hS _ _
  exact ⟨text_le hS _ _,h2,by show (-9223372036854775808:Int)≤((((headT K S n r).1.word K n 1).take K S n 4 ⟨#[61]⟩).num K S n:Nat);omega,by show ((((headT K S n r).1.word K n 1).take K S n 4 ⟨#[61]⟩).num K S n:Nat) < (9223372036854775808:Int);omega⟩
theorem bodyT_ok (hS:∀ i,(S i).size≤maxLen) (hD:DigT K S n):∀ (f:Nat) (r:Rd) (m:MB),m.Ok→(bodyT K S n f r m).2.Ok:=by
 intro f
 induction f with
 | zero=>exact fun r m h=>h
 | succ f ih=>
  intro r m h
  unfold bodyT
  split
  ·exact h
  ·split
   ·exact h
   ·split
    ·exact ih _ _ (resL_ok hS hD _ _ _ _ h)
    ·exact ih _ _ (fieldT_ok hS hD _ _ h)
theorem msgT_ok (hS:∀ i,(S i).size≤maxLen) (hD:DigT K S n) (r:Rd):(msgT K S n r).2.Ok:=
 bodyT_ok hS hD _ _ _ ⟨text_le hS _ _,fun x hx=>(by cases hx),fun x hx=>(by cases hx),fun x hx=>(by cases hx)⟩
structure Rd.Go (n:Nat) (r r':Rd):Prop where
 ge:r.i≤r'.i
 le:r'.i≤n
 up:r'.bad=false→r.bad=false∧r.i+1≤r'.i
structure Rd.Le (n:Nat) (r r':Rd):Prop where
 ge:r.i≤r'.i
 le:r'.i≤n
 up:r'.bad=false→r.bad=false
theorem Rd.Go.toLe {r r':Rd} (h:Rd.Go n r r'):Rd.Le n r r':=⟨h.ge,h.le,fun e=>(h.up e).1⟩
theorem Rd.Le.trans {r r' r'':Rd} (h:Rd.Le n r r') (k:Rd.Le n r' r''):Rd.Le n r r'':=⟨Nat.le_trans h.ge k.ge,k.le,fun e=>h.up (k.up e)⟩
theorem Rd.Le.go {r r' r'':Rd} (h:Rd.Le n r r') (k:Rd.Go n r' r''):Rd.Go n r r'':=⟨Nat.le_trans h.ge k.ge,k.le,fun e=>⟨h.up (k.up e).1,by have:=(k.up e).2;have:=h.ge;omega⟩⟩
theorem Rd.Go.le' {r r' r'':Rd} (h:Rd.Go n r r') (k:Rd.Le n r' r''):Rd.Go n r r'':=⟨Nat.le_trans h.ge k.ge,k.le,fun e=>⟨(h.up (k.up e)).1,by have:=(h.up (k.up e)).2;have:=k.ge;omega⟩⟩
theorem take_go {r:Rd} (h:r.i≤n) (k:Int) (hk:k≠0) (s:ByteArray):Rd.Go n r (r.take K S n k s):=⟨take_ge _ _ _,rd_take_le hk h,fun e=>⟨(take_ok e).1,by rw [(take_ok e).2];exact Nat.le_refl _⟩⟩
theorem word_go {r:Rd} (h:r.i≤n) (k:Int) (hk:k≠0):Rd.Go n r (r.word K n k):=⟨word_ge _ _,rd_word_le hk h,fun e=>⟨(word_ok e).1,by rw [(word_ok e).2];exact Nat.le_refl _⟩⟩
theorem pass_le {r:Rd} (h:r.i≤n) (k:Int) (hk:k≠0) (s:ByteArray):Rd.Le n r (r.pass K S n k s):=⟨pass_ge _ _ _,rd_take_le hk h,id⟩
theorem resL_le (q:Bool):∀ (f:Nat) (r:Rd) (m:MB),r.i≤n→Rd.Le n r (resL K S n q f r m).1:=by
 intro f
 induction f with
 | zero=>exact fun r m h=>⟨Nat.le_refl _,h,id⟩
 | succ f ih=>
  intro r m h
  cases hb:r.bad with
  | true=>
   show Rd.Le n r (if r.bad=true then (r,m) else _).1
   rw [if_pos hb]
   exact ⟨Nat.le_refl _,h,id⟩
  | false=>
   rw [resL_go q f hb]
   obtain ⟨k,hk⟩:∃ k:Int,(if q=true then (3:Int) else 2)=k:=⟨_,rfl⟩
   have hk0:k≠0:=by rw [← hk];split <;> decide
   obtain ⟨m',hm'⟩:∃ m':MB,(if q=true then { m with S:=m.S ++ [r.text K S n 3] } else { m with N:=m.N ++ [r.num K S n] })=m':=⟨_,rfl⟩
   rw [hk,hm']
   have h1:Rd.Go n r (r.word K n k):=word_go h _ hk0
   split
   ·have h2:=pass_le (K:=K) (S:=S) h1.le 4 z0g ⟨#[44]⟩
    exact (h1.toLe.trans h2).trans (ih _ _ h2.le)
   ·exact h1.toLe
theorem resT_go {r:Rd} (m:MB) (h:r.i≤n):Rd.Go n r (resT K S n r m).1:=by
 have h1:=resL_le (K:=K) (S:=S) (n:=n) (tokK K n r.i == 3) (n+1) r m h
 exact h1.go (take_go h1.le 4 z0g _)
theorem headT_up {r:Rd} (h:(headT K S n r).1.bad=false):r.bad=false:=by
 unfold headT at h
 split at h
 ·exact (take_ok (r:=⟨r.i+2,r.bad⟩) (take_ok (word_ok (take_ok h).1).1).1).1
 ·have h1:=(word_ok h).1
  revert h1
  split
  ·exact id
  ·exact id
theorem fieldT_go {r:Rd} (m:MB) (h:r.i≤n):Rd.Go n r (fieldT K S n r m).1:=by
 obtain ⟨g1,g2⟩:=headT_le (K:=K) (S:=S) h
 have h0:Rd.Le n r (headT K S n r).1:=⟨g1,g2,headT_up⟩
 have h1:=h0.go (word_go (K:=K) g2 1 z0g)
 have h2:=h1.toLe.go (take_go (K:=K) (S:=S) h1.le 4 z0g ⟨#[61]⟩)
 have h3:=h2.toLe.go (word_go (K:=K) h2.le 2 z0g)
 exact h3.toLe.go (take_go (K:=K) (S:=S) h3.le 4 z0g ⟨#[59]⟩)
theorem bodyT_le:∀ (f:Nat) (r:Rd) (m:MB),r.i≤n→Rd.Le n r (bodyT K S n f r m).1:=by
 intro f
 induction f with
 | zero=>exact fun r m h=>⟨Nat.le_refl _,h,id⟩
 | succ f ih=>
  intro r m h
  unfold bodyT
  split
  ·exact ⟨Nat.le_refl _,h,id⟩
  ·split
   ·exact pass_le h 4 z0g _
   ·split
    ·have h1:=pass_le (K:=K) (S:=S) h 1 z0g ⟨#[114,101,115,101,114,118,101,100]⟩
     have h2:=resT_go (K:=K) (S:=S) m h1.le
     exact (h1.trans h2.toLe).trans (ih _ _ h2.le)
    ·have h2:=fieldT_go (K:=K) (S:=S) m h
     exact h2.toLe.trans (ih _ _ h2.le)
theorem msgT_go {r:Rd} (h:r.i≤n):Rd.Go n r (msgT K S n r).1:=by
 have h1:=take_go (K:=K) (S:=S) h 1 z0g ⟨#[109,101,115,115,97,103,101]⟩
 have h2:=h1.toLe.go (word_go (K:=K) h1.le 1 z0g)
 have h3:=h2.toLe.go (take_go (K:=K) (S:=S) h2.le 4 z0g ⟨#[123]⟩)
 exact h3.le' (bodyT_le _ _ _ h3.le)
end
def loadR (s:ByteArray):Option (List MB):=
 match tokN s (s.size+1) 0 with
 | none=>none
 | some l=>if (loadT (tkK l) (tkS l) l.length false).1.bad=true then none else some (loadT (tkK l) (tkS l) l.length false).2
theorem take_bad {K:Nat→Int} {S:Nat→ByteArray} {n:Nat} {r:Rd} (h:r.bad=true) (k:Int) (s:ByteArray):(r.take K S n k s).bad=true:=by
 show (!isB K S n r.i r.bad k s)=true
 unfold isB
 rw [h]
 rfl
theorem loadT_bad (K:Nat→Int) (S:Nat→ByteArray) (n:Nat):(loadT K S n true).1.bad=true:=by
 unfold loadT
 have h:((((Rd.take K S n ⟨0,true⟩ 1 ⟨#[115,121,110,116,97,120]⟩).take K S n 4 ⟨#[61]⟩).take K S n 3 ⟨#[112,114,111,116,111,51]⟩).take K S n 4 ⟨#[59]⟩).bad=true:=take_bad (take_bad (take_bad (take_bad rfl _ _) _ _) _ _) _ _
 generalize ((((Rd.take K S n ⟨0,true⟩ 1 ⟨#[115,121,110,116,97,120]⟩).take K S n 4 ⟨#[61]⟩).take K S n 3 ⟨#[112,114,111,116,111,51]⟩).take K S n 4 ⟨#[59]⟩)=r at h
 show (if r.bad=true∨n≤r.i then (r,[]) else _).1.bad=true
 rw [if_pos (.inl h)]
 exact h
structure SpR (s:ByteArray) (w w':World) (a:Option Addr) (n c:Nat) (K:Nat→Int) (S:Nat→ByteArray) (ok:Bool):Prop where
 t:TIn w' a n c K S
 hA:∀ ad,a=some ad→w.heap.size≤ad.block∧ad.block < w'.heap.size
 d:DigT K S n
 hn:n≤8192
 hS:∀ i,(S i).size≤maxLen
 b:Below w.heap.size w w'
 r:loadR s=if (loadT K S n (!ok)).1.bad=true then none else some (loadT K S n (!ok)).2
theorem split_of {s:ByteArray} (hs:s.size≤8192) (w:World):Calls Tryd.prog 12 #[.string s] w fun e w'=>∃ a n c K S ok,e=.returned (.tuple #[.slice a n c,.bool ok])∧SpR s w w' a n c K S ok:=by
 refine (Split_any s hs w).mono ?_
 rintro e w' (⟨hN,rfl,hB⟩|⟨l,v,hN,hl,rfl,ho,hB⟩)
 ·refine ⟨none,0,0,fun _=>0,fun _=>⟨#[]⟩,false,rfl,⟨⟨Nat.le_refl _,Nat.zero_le _,.inl rfl⟩,fun ad e=>(by cases e),fun i hi=>absurd hi (Nat.not_lt_zero _),Nat.zero_le _,fun _=>Nat.zero_le _,hB,?_⟩⟩
  have h:=loadT_bad (fun _=>0) (fun _=>⟨#[]⟩) 0
  rw [Bool.not_false,if_pos h]
  unfold loadR
  rw [hN]
 ·obtain ⟨a,c,rfl,hT,ha⟩:=tk_form ho
  obtain ⟨hD,hS⟩:=tk_dig hN
  refine ⟨a,l.length,c,tkK l,tkS l,true,rfl,⟨hT,ha,hD,by omega,fun i=>by have:=hS i;unfold maxLen;omega,hB,?_⟩⟩
  unfold loadR
  rw [hN]
  rfl
section
variable {K:Nat→Int} {S:Nat→ByteArray} {n:Nat}
def Rd.left (n:Nat) (r:Rd):Nat:=if r.bad=true then 0 else n - r.i+1
def Rd.left0 (n:Nat) (r:Rd):Nat:=if r.bad=true then 0 else n - r.i
theorem Rd.Go.left {r r':Rd} (h:Rd.Go n r r') (hb:r.bad=false):r'.left n < r.left n:=by
 unfold Rd.left
 rw [hb]
 simp only [Bool.false_eq_true,if_false]
 split
 ·omega
 ·next hq=>
  have:=(h.up (Bool.not_eq_true _ ▸ hq)).2
  have:=h.le
  omega
theorem Rd.Go.left0 {r r':Rd} (h:Rd.Go n r r') (hb:r.bad=false) (hi:r.i < n):r'.left0 n < r.left0 n:=by
 unfold Rd.left0
 rw [hb]
 simp only [Bool.false_eq_true,if_false]
 split
 ·omega
 ·next hq=>
  have:=(h.up (Bool.not_eq_true _ ▸ hq)).2
  have:=h.le
  omega
theorem bodyT_bad (f:Nat) {r:Rd} (m:MB) (hb:r.bad=true):bodyT K S n f r m=(r,m):=by
 cases f with
 | zero=>rfl
 | succ f=>
  show (if r.bad=true then (r,m) else _)=(r,m)
  rw [if_pos hb]
theorem bodyT_end (f:Nat) {r:Rd} (m:MB) (hb:r.bad=false) (h:r.is K S n 4 ⟨#[125]⟩=true):bodyT K S n (f+1) r m=(r.pass K S n 4 ⟨#[125]⟩,m):=by
 show (if r.bad=true then _ else if r.is K S n 4 ⟨#[125]⟩=true then _ else _)=_
 rw [if_neg z0r,if_pos h]
theorem bodyT_res (f:Nat) {r:Rd} (m:MB) (hb:r.bad=false) (h:r.is K S n 4 ⟨#[125]⟩=false) (h2:r.is K S n 1 ⟨#[114,101,115,101,114,118,101,100]⟩=true) :
  bodyT K S n (f+1) r m=bodyT K S n f (resT K S n (r.pass K S n 1 ⟨#[114,101,115,101,114,118,101,100]⟩) m).1 (resT K S n (r.pass K S n 1 ⟨#[114,101,115,101,114,118,101,100]⟩) m).2:=by
 show (if r.bad=true then _ else if r.is K S n 4 ⟨#[125]⟩=true then _ else if r.is K S n 1 ⟨#[114,101,115,101,114,118,101,100]⟩=true then _ else _)=_
 rw [if_neg z0r,if_neg (by rw [h];exact Bool.false_ne_true),if_pos h2]
theorem bodyT_fld (f:Nat) {r:Rd} (m:MB) (hb:r.bad=false) (h:r.is K S n 4 ⟨#[125]⟩=false) (h2:r.is K S n 1 ⟨#[114,101,115,101,114,118,101,100]⟩=false) :
  bodyT K S n (f+1) r m=bodyT K S n f (fieldT K S n r m).1 (fieldT K S n r m).2:=by
 show (if r.bad=true then _ else if r.is K S n 4 ⟨#[125]⟩=true then _ else if r.is K S n 1 ⟨#[114,101,115,101,114,118,101,100]⟩=true then _ else _)=_
 rw [if_neg z0r,if_neg (by rw [h];exact Bool.false_ne_true),if_neg (by rw [h2];exact Bool.false_ne_true)]
theorem msgsT_end (f:Nat) {r:Rd} (l:List MB) (h:r.bad=true∨n≤r.i):msgsT K S n f r l=(r,l):=by
 cases f with
 | zero=>rfl
 | succ f=>
  show (if r.bad=true∨n≤r.i then (r,l) else _)=(r,l)
  rw [if_pos h]
theorem msgsT_go (f:Nat) {r:Rd} (l:List MB) (h:¬ (r.bad=true∨n≤r.i)):msgsT K S n (f+1) r l=msgsT K S n f (msgT K S n r).1 (l ++ [(msgT K S n r).2]):=by
 show (if r.bad=true∨n≤r.i then (r,l) else _)=_
 rw [if_neg h]
theorem pass_no {r:Rd} {k:Int} {s:ByteArray} (h:r.is K S n k s=false):r.pass K S n k s=r:=by
 show (⟨if isB K S n r.i r.bad k s=true then r.i+1 else r.i,r.bad⟩:Rd)=r
 rw [if_neg (by show ¬ r.is K S n k s=true;rw [h];exact Bool.false_ne_true)]
end
structure RdI (wp:World) (B:Nat) (a:Option Addr) (n c:Nat) (w:World) (r:Rd):Prop where
 b:But B B wp w
 p:PBx w B a n c r.i r.bad
 i:r.i≤n
theorem RdI.step {wp w w1:World} {B:Nat} {a:Option Addr} {n c:Nat} {r r':Rd} (h:RdI wp B a n c w r) (hp:PBx w1 B a n c r'.i r'.bad) (hk:But B B w w1) (hi:r'.i≤n):RdI wp B a n c w1 r':=⟨h.b.trans2 hk,hp,hi⟩
theorem RdI.low {wp w w1:World} {B:Nat} {a:Option Addr} {n c:Nat} {r:Rd} (h:RdI wp B a n c w r) (hb:Below w.heap.size w w1):RdI wp B a n c w1 r:=⟨h.b.trans2 (But.of hb),h.p.below hb,h.i⟩
theorem pbx_new (w:World) (a:Option Addr) (n c:Nat) (bad:Bool) (t:TypeId):PBx (w.alloc (.cells #[.slice a n c,.int .i64 0,.bool bad] t)) w.heap.size a n c 0 bad:=⟨by simp [go_sem],fun j=>by simp [go_sem]⟩
def bitOf:Value→Bool
 | .bool b=>b
 | _=>false
def leftW (n:Nat) (w:World) (B:Nat):Nat:=Rd.left n ⟨atI w B,bitOf ((w.cell? ⟨B,2,none⟩).getD undef)⟩
def leftW0 (n:Nat) (w:World) (B:Nat):Nat:=Rd.left0 n ⟨atI w B,bitOf ((w.cell? ⟨B,2,none⟩).getD undef)⟩
theorem leftW_of {w:World} {B:Nat} {a:Option Addr} {n c:Nat} {r:Rd} (h:PBx w B a n c r.i r.bad):leftW n w B=r.left n:=by
 unfold leftW
 rw [atI_of h,h.c.2.2]
 rfl
theorem leftW0_of {w:World} {B:Nat} {a:Option Addr} {n c:Nat} {r:Rd} (h:PBx w B a n c r.i r.bad):leftW0 n w B=r.left0 n:=by
 unfold leftW0
 rw [atI_of h,h.c.2.2]
 rfl
theorem msi_new {w:World} {B:Nat} (nm:ByteArray) (t:TypeId) (h:B < w.heap.size):MsI w B (w.alloc (.cells #[.string nm,.slice none 0 0,.slice none 0 0,.slice none 0 0] t)) ⟨nm,[],[],[]⟩ (.slice none 0 0) (.slice none 0 0) (.slice none 0 0):=
 ⟨But.of (below_alloc (Below.refl _ _) _),h,by simp [go_sem],fun j=>by simp [go_sem],World.ownsRow_nil _ _ _ _,World.ownsRow_nil _ _ _ _,World.ownsRow_nil _ _ _ _⟩
theorem news_four {w:World} {B:Nat} {a0 a1 a2 a3:Value} (h:w.cell? ⟨B,0,none⟩=some a0∧w.cell? ⟨B,1,none⟩=some a1∧w.cell? ⟨B,2,none⟩=some a2∧w.cell? ⟨B,3,none⟩=some a3):∀ j u,[a0,a1,a2,a3][j]? = some u→w.cell? ((⟨B,0,none⟩:Addr).add j)=some u:=by
 obtain ⟨h0,h1,h2,h3⟩:=h
 intro j u hu
 rw [addr_at,Nat.zero_add]
 match j with
 | 0=>exact h0.trans hu
 | 1=>exact h1.trans hu
 | 2=>exact h2.trans hu
 | 3=>exact h3.trans hu
 | j+4=>simp at hu
theorem own_one {w:World} {b:Nat} {e:TypeId} {s n:Nat} {v:Value} {xs:List Value} (h:w.ownsRow b e s v n xs):v.oneCell'=true:=by
 rcases h.2 with ⟨rfl,-⟩|⟨g,cap,cur,rfl,-⟩ <;> rfl
theorem MR.At.one {b:Nat} {w:World} {x:MR} (h:x.At b w):∀ u ∈ x.cells,u.oneCell'=true:=by
 intro u hu
 unfold MR.cells at hu
 simp only [List.mem_cons,List.mem_nil_iff,or_false] at hu
 rcases hu with rfl|rfl|rfl|rfl
 ·rfl
 ·exact own_one h.oF
 ·exact own_one h.oN
 ·exact own_one h.oS
end Go.Proofs.YtfondldmmcmloaaDoor
