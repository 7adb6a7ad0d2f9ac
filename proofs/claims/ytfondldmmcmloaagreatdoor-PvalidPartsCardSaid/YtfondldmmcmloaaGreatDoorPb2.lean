/- NatB, Gen, VT, VFew, ShelfV. -/
import Derived.Deep.RegionHeld3
import Derived.Deep.DeepCutAuto
import Derived.LoopN
import Derived.Test.YtfondldmmcmloaaGreatDoorPb1
set_option maxRecDepth 1000000
set_option maxHeartbeats 8000000
namespace Go.Proofs.YtfondldmmcmloaaGreatDoor
open Go Go.RowKit
theorem z2zk1 {p:Prop} (h:p:=by
 go_enter Tryz.func16,Tryz.ntmps16
 repeat any_goals (first|go_skip|go_guarded|go_step|go_upon|(simp only [];done))
 exact bodyPost_ret (v:=.int .i64 1000) z0k1 rfl ⟨rfl,zb2⟩):p:=h
theorem z2zk2 {p:Prop} (h:p:=by
 subst e
 repeat any_goals (first|go_skip|go_guarded|go_step|go_upon|(simp only [];done))
 exact bodyPost_ret (v:=.int .i64 (D j:Nat)) z0k1 rfl ⟨rfl,hW⟩):p:=h
end Go.Proofs.YtfondldmmcmloaaGreatDoor
namespace Go.Proofs.YtfondldmmcmloaaGreatDoor
open Go.RowKit
@[go_sem] theorem run_equalIn_nat (d : Nat) (a0 a1 a2 a3 b0 b1 b2 b3 : Int) (w : World) :
  (Op.equalIn (d+2) 25 (.agg #[.int .u64 a0,.int .u64 a1,.int .u64 a2,.int .u64 a3]) (.agg #[.int .u64 b0,.int .u64 b1,.int .u64 b2,.int .u64 b3])).run Tryz.prog w=.ok (a0 == b0 && a1 == b1 && a2 == b2 && a3 == b3) w:=by
 have h24:=@Tryz.underlying25
 have h22:=@Tryz.underlying23
 unfold Op.equalIn
 simp only [Sem.run_bind,run_underlying h24,Result.andThen_ok]
 simp [go_sem,Std.Legacy.Range.forIn_eq_forIn_range',List.range']
 by_cases e0:a0=b0 <;> by_cases e1:a1=b1 <;> by_cases e2:a2=b2 <;> by_cases e3:a3=b3 <;> simp [e0,e1,e2,e3]

theorem Of_eq (v:Int) (w:World) :
  Calls Tryz.prog 117 #[.int .u64 v] w fun e w'=>e=.returned (.agg #[.int .u64 v,.int .u64 0,.int .u64 0,.int .u64 0])∧w.alloc (.cells #[.int .u64 v,.int .u64 0,.int .u64 0,.int .u64 0] 25)=w':=by
 go_enter Tryz.func117,Tryz.ntmps117
 go_wp2
 exact bodyPost_ret (v:=.agg #[.int .u64 v,.int .u64 0,.int .u64 0,.int .u64 0]) (by simp [results,Tryz.results117,go_sem]) rfl ⟨rfl,rfl⟩

def Tab (w:World):Prop:=TabAt 2 Lib.deBruijn64tab w
theorem Tab.lt {w:World} (h:Tab w):2 < w.heap.size:=
 World.block_lt_of_cell? w ⟨2,0,none⟩ (h 0 z0e)
theorem Tab.below {w w':World} (h:Tab w) (hb:Below w.heap.size w w'):Tab w':=fun j hj=>by
 rw [hb.cell (p:=⟨2,j,none⟩) h.lt]
 exact h j hj
theorem Tab.alloc {w:World} (h:Tab w) (o:Obj):Tab (w.alloc o):=h.below ((Below.refl _ _).alloc (Nat.le_refl _) o)
theorem Tab.drew {w:World} (h:Tab w):Tab w.drew:=h.below (Below.refl _ _).drew

theorem Tz64_any (x:Nat) (h0:0 < x) (hx:x < 18446744073709551616) (w:World) (hT:Tab w) :
  Calls Tryz.prog 118 #[.int .u64 (x:Int)] w fun e w'=>e=.returned (.int .i64 (tz x:Nat))∧w=w':=by
 refine (Tryz.bits_TrailingZeros64 x hx w (fun _=>hT)).mono ?_
 rintro e w' ⟨rfl,rfl⟩
 rw [ctz64_eq h0 hx]
 exact ⟨rfl,rfl⟩
theorem tz64 {x:Nat} (h:x < 18446744073709551616):tz x≤64:=by
 by_cases h0:x=0
 ·subst h0;simp [tz_zero]
 ·have:=tz_lt_bl (n:=x) z0c
  have:=bl64 h
  omega

def trail4 (a0 a1 a2 a3:Nat):Nat:=if a0≠0 then tz a0 else if a1≠0 then 64+tz a1 else if a2≠0 then 128+tz a2 else if a3≠0 then 192+tz a3 else 256
theorem Trail_0 (a0 a1 a2 a3:Nat) (h0:a0 < 18446744073709551616) (_h1:a1 < 18446744073709551616) (_h2:a2 < 18446744073709551616) (_h3:a3 < 18446744073709551616) (w:World) (hT:Tab w)  (c0:a0≠0) :
  Calls Tryz.prog 120 #[.agg #[.int .u64 a0,.int .u64 a1,.int .u64 a2,.int .u64 a3]] w fun e w'=>e=.returned (.int .i64 ((tz a0:Nat):Int))∧Below w.heap.size w w':=by
 have t0:=ne0t c0
 have p0:0 < a0:=by omega
 have b0:=tz64 h0
 have hT1:=hT.alloc
 have i0:∀ w,(Instr.index 25 (.agg #[.int .u64 a0,.int .u64 a1,.int .u64 a2,.int .u64 a3]) (.int .i64 0)).run Tryz.prog w=.ok (.int .u64 a0) w:=fun _=>by kernel_rfl
 have i1:∀ w,(Instr.index 25 (.agg #[.int .u64 a0,.int .u64 a1,.int .u64 a2,.int .u64 a3]) (.int .i64 1)).run Tryz.prog w=.ok (.int .u64 a1) w:=fun _=>by kernel_rfl
 have i2:∀ w,(Instr.index 25 (.agg #[.int .u64 a0,.int .u64 a1,.int .u64 a2,.int .u64 a3]) (.int .i64 2)).run Tryz.prog w=.ok (.int .u64 a2) w:=fun _=>by kernel_rfl
 have i3:∀ w,(Instr.index 25 (.agg #[.int .u64 a0,.int .u64 a1,.int .u64 a2,.int .u64 a3]) (.int .i64 3)).run Tryz.prog w=.ok (.int .u64 a3) w:=fun _=>by kernel_rfl
 clear c0
 go_enter Tryz.func120,Tryz.ntmps120
 go_wp2_with fail
 refine wp_loop_rounds 5 ?_
 iterate 1 (rw [rounds_succ];go_wp2_with ((go_at_call 118;refine (Tz64_any _ z0w z0w _ (hT1 _)).mono ?_;rintro e w' ⟨rfl,rfl⟩)))
 go_ret
 exact ⟨by simp,zb1⟩
theorem Trail_1 (a0 a1 a2 a3:Nat) (_h0:a0 < 18446744073709551616) (h1:a1 < 18446744073709551616) (_h2:a2 < 18446744073709551616) (_h3:a3 < 18446744073709551616) (w:World) (hT:Tab w) (c0:a0=0) (c1:a1≠0) :
  Calls Tryz.prog 120 #[.agg #[.int .u64 a0,.int .u64 a1,.int .u64 a2,.int .u64 a3]] w fun e w'=>e=.returned (.int .i64 ((64+tz a1:Nat):Int))∧Below w.heap.size w w':=by
 have t0:=ne0f c0
 have t1:=ne0t c1
 have p1:0 < a1:=by omega
 have b1:=tz64 h1
 have hT1:=hT.alloc
 have i0:∀ w,(Instr.index 25 (.agg #[.int .u64 a0,.int .u64 a1,.int .u64 a2,.int .u64 a3]) (.int .i64 0)).run Tryz.prog w=.ok (.int .u64 a0) w:=fun _=>by kernel_rfl
 have i1:∀ w,(Instr.index 25 (.agg #[.int .u64 a0,.int .u64 a1,.int .u64 a2,.int .u64 a3]) (.int .i64 1)).run Tryz.prog w=.ok (.int .u64 a1) w:=fun _=>by kernel_rfl
 have i2:∀ w,(Instr.index 25 (.agg #[.int .u64 a0,.int .u64 a1,.int .u64 a2,.int .u64 a3]) (.int .i64 2)).run Tryz.prog w=.ok (.int .u64 a2) w:=fun _=>by kernel_rfl
 have i3:∀ w,(Instr.index 25 (.agg #[.int .u64 a0,.int .u64 a1,.int .u64 a2,.int .u64 a3]) (.int .i64 3)).run Tryz.prog w=.ok (.int .u64 a3) w:=fun _=>by kernel_rfl
 clear c0 c1
 go_enter Tryz.func120,Tryz.ntmps120
 go_wp2_with fail
 refine wp_loop_rounds 5 ?_
 iterate 2 (rw [rounds_succ];go_wp2_with ((go_at_call 118;refine (Tz64_any _ z0w z0w _ (hT1 _)).mono ?_;rintro e w' ⟨rfl,rfl⟩)))
 go_ret
 exact ⟨by simp,zb1⟩
theorem Trail_2 (a0 a1 a2 a3:Nat) (_h0:a0 < 18446744073709551616) (_h1:a1 < 18446744073709551616) (h2:a2 < 18446744073709551616) (_h3:a3 < 18446744073709551616) (w:World) (hT:Tab w) (c0:a0=0) (c1:a1=0) (c2:a2≠0) :
  Calls Tryz.prog 120 #[.agg #[.int .u64 a0,.int .u64 a1,.int .u64 a2,.int .u64 a3]] w fun e w'=>e=.returned (.int .i64 ((128+tz a2:Nat):Int))∧Below w.heap.size w w':=by
 have t0:=ne0f c0
 have t1:=ne0f c1
 have t2:=ne0t c2
 have p2:0 < a2:=by omega
 have b2:=tz64 h2
 have hT1:=hT.alloc
 have i0:∀ w,(Instr.index 25 (.agg #[.int .u64 a0,.int .u64 a1,.int .u64 a2,.int .u64 a3]) (.int .i64 0)).run Tryz.prog w=.ok (.int .u64 a0) w:=fun _=>by kernel_rfl
 have i1:∀ w,(Instr.index 25 (.agg #[.int .u64 a0,.int .u64 a1,.int .u64 a2,.int .u64 a3]) (.int .i64 1)).run Tryz.prog w=.ok (.int .u64 a1) w:=fun _=>by kernel_rfl
 have i2:∀ w,(Instr.index 25 (.agg #[.int .u64 a0,.int .u64 a1,.int .u64 a2,.int .u64 a3]) (.int .i64 2)).run Tryz.prog w=.ok (.int .u64 a2) w:=fun _=>by kernel_rfl
 have i3:∀ w,(Instr.index 25 (.agg #[.int .u64 a0,.int .u64 a1,.int .u64 a2,.int .u64 a3]) (.int .i64 3)).run Tryz.prog w=.ok (.int .u64 a3) w:=fun _=>by kernel_rfl
 clear c0 c1 c2
 go_enter Tryz.func120,Tryz.ntmps120
 go_wp2_with fail
 refine wp_loop_rounds 5 ?_
 iterate 3 (rw [rounds_succ];go_wp2_with ((go_at_call 118;refine (Tz64_any _ z0w z0w _ (hT1 _)).mono ?_;rintro e w' ⟨rfl,rfl⟩)))
 go_ret
 exact ⟨by simp,zb1⟩
theorem Trail_3 (a0 a1 a2 a3:Nat) (_h0:a0 < 18446744073709551616) (_h1:a1 < 18446744073709551616) (_h2:a2 < 18446744073709551616) (h3:a3 < 18446744073709551616) (w:World) (hT:Tab w) (c0:a0=0) (c1:a1=0) (c2:a2=0) (c3:a3≠0) :
  Calls Tryz.prog 120 #[.agg #[.int .u64 a0,.int .u64 a1,.int .u64 a2,.int .u64 a3]] w fun e w'=>e=.returned (.int .i64 ((192+tz a3:Nat):Int))∧Below w.heap.size w w':=by
 have t0:=ne0f c0
 have t1:=ne0f c1
 have t2:=ne0f c2
 have t3:=ne0t c3
 have p3:0 < a3:=by omega
 have b3:=tz64 h3
 have hT1:=hT.alloc
 have i0:∀ w,(Instr.index 25 (.agg #[.int .u64 a0,.int .u64 a1,.int .u64 a2,.int .u64 a3]) (.int .i64 0)).run Tryz.prog w=.ok (.int .u64 a0) w:=fun _=>by kernel_rfl
 have i1:∀ w,(Instr.index 25 (.agg #[.int .u64 a0,.int .u64 a1,.int .u64 a2,.int .u64 a3]) (.int .i64 1)).run Tryz.prog w=.ok (.int .u64 a1) w:=fun _=>by kernel_rfl
 have i2:∀ w,(Instr.index 25 (.agg #[.int .u64 a0,.int .u64 a1,.int .u64 a2,.int .u64 a3]) (.int .i64 2)).run Tryz.prog w=.ok (.int .u64 a2) w:=fun _=>by kernel_rfl
 have i3:∀ w,(Instr.index 25 (.agg #[.int .u64 a0,.int .u64 a1,.int .u64 a2,.int .u64 a3]) (.int .i64 3)).run Tryz.prog w=.ok (.int .u64 a3) w:=fun _=>by kernel_rfl
 clear c0 c1 c2 c3
 go_enter Tryz.func120,Tryz.ntmps120
 go_wp2_with fail
 refine wp_loop_rounds 5 ?_
 iterate 4 (rw [rounds_succ];go_wp2_with ((go_at_call 118;refine (Tz64_any _ z0w z0w _ (hT1 _)).mono ?_;rintro e w' ⟨rfl,rfl⟩)))
 go_ret
 exact ⟨by simp,zb1⟩
theorem Trail_4 (a0 a1 a2 a3:Nat) (_h0:a0 < 18446744073709551616) (_h1:a1 < 18446744073709551616) (_h2:a2 < 18446744073709551616) (_h3:a3 < 18446744073709551616) (w:World) (hT:Tab w) (c0:a0=0) (c1:a1=0) (c2:a2=0) (c3:a3=0) :
  Calls Tryz.prog 120 #[.agg #[.int .u64 a0,.int .u64 a1,.int .u64 a2,.int .u64 a3]] w fun e w'=>e=.returned (.int .i64 ((256:Nat):Int))∧Below w.heap.size w w':=by
 have t0:=ne0f c0
 have t1:=ne0f c1
 have t2:=ne0f c2
 have t3:=ne0f c3
 have hT1:=hT.alloc
 have i0:∀ w,(Instr.index 25 (.agg #[.int .u64 a0,.int .u64 a1,.int .u64 a2,.int .u64 a3]) (.int .i64 0)).run Tryz.prog w=.ok (.int .u64 a0) w:=fun _=>by kernel_rfl
 have i1:∀ w,(Instr.index 25 (.agg #[.int .u64 a0,.int .u64 a1,.int .u64 a2,.int .u64 a3]) (.int .i64 1)).run Tryz.prog w=.ok (.int .u64 a1) w:=fun _=>by kernel_rfl
 have i2:∀ w,(Instr.index 25 (.agg #[.int .u64 a0,.int .u64 a1,.int .u64 a2,.int .u64 a3]) (.int .i64 2)).run Tryz.prog w=.ok (.int .u64 a2) w:=fun _=>by kernel_rfl
 have i3:∀ w,(Instr.index 25 (.agg #[.int .u64 a0,.int .u64 a1,.int .u64 a2,.int .u64 a3]) (.int .i64 3)).run Tryz.prog w=.ok (.int .u64 a3) w:=fun _=>by kernel_rfl
 clear c0 c1 c2 c3
 go_enter Tryz.func120,Tryz.ntmps120
 go_wp2_with fail
 go_rounds 5
 go_ret
 exact ⟨by simp,zb1⟩
theorem Trail_any (a0 a1 a2 a3:Nat) (h0:a0 < 18446744073709551616) (h1:a1 < 18446744073709551616) (h2:a2 < 18446744073709551616) (h3:a3 < 18446744073709551616) (w:World) (hT:Tab w) :
  Calls Tryz.prog 120 #[.agg #[.int .u64 a0,.int .u64 a1,.int .u64 a2,.int .u64 a3]] w fun e w'=>e=.returned (.int .i64 (trail4 a0 a1 a2 a3:Nat))∧Below w.heap.size w w':=by
 unfold trail4
 split
 ·exact Trail_0 a0 a1 a2 a3 h0 h1 h2 h3 w hT z0w
 ·split
  ·exact Trail_1 a0 a1 a2 a3 h0 h1 h2 h3 w hT z0c z0w
  ·split
   ·exact Trail_2 a0 a1 a2 a3 h0 h1 h2 h3 w hT z0c z0c z0w
   ·split
    ·exact Trail_3 a0 a1 a2 a3 h0 h1 h2 h3 w hT z0c z0c z0c z0w
    ·exact Trail_4 a0 a1 a2 a3 h0 h1 h2 h3 w hT z0c z0c z0c z0c
theorem below_alloc {a w:World} (h:Below a.heap.size a w) (o:Obj):Below a.heap.size a (w.alloc o):=h.alloc h.size o
theorem below_trans {a b c:World} (h:Below a.heap.size a b) (k:Below b.heap.size b c):Below a.heap.size a c:=h.trans (k.mono h.size)
inductive VT where
 | nil
 | mk (kind:Int) (neg:Bool) (V bits:Nat) (text:ByteArray) (aL:Option Addr) (nL cL:Nat) (kids:Nat→VT) (aK:Option Addr) (nK cK:Nat) (keys:Nat→ByteArray)
instance:Inhabited VT:=⟨.nil⟩
def VT.cells:VT→List Value
 | .nil=>[]
 | .mk kind neg V bits text aL nL cL _ aK nK cK _=>[.int .i64 kind,.bool neg,.int .u64 (lm V 0:Nat),.int .u64 (lm V 1:Nat),.int .u64 (lm V 2:Nat),.int .u64 (lm V 3:Nat),.int .u64 (bits:Nat),.string text,.slice aL nL cL,.slice aK nK cK]
def VT.agg (T:VT):Value:=.agg T.cells.toArray
structure VOwn (kind:Int) (V bits:Nat) (text:ByteArray) (nL cL nK cK:Nat):Prop where
 k0 : -9223372036854775808≤kind
 k1:kind < 9223372036854775808
 v:V < 2 ^ 256
 b:bits < 18446744073709551616
 t:text.size≤maxLen
 l:nL≤cL
 lc:cL≤maxLen
 n:nK≤cK
 nc:cK≤maxLen
def VT.In (w:World):VT→Prop
 | .nil=>False
 | .mk kind _ V bits text aL nL cL kids aK nK cK keys=>VOwn kind V bits text nL cL nK cK ∧
   (nL=0∨∃ b off,aL=some ⟨b,off,none⟩∧b < w.heap.size∧∀ i,i < nL→∀ j,j < 10→w.cell? ⟨b,off+i * 10+j,none⟩=(kids i).cells[j]?) ∧
   (∀ i,i < nL→(kids i).In w) ∧
   (nK=0∨∃ b off,aK=some ⟨b,off,none⟩∧b < w.heap.size∧∀ i,i < nK→w.cell? ⟨b,off+i,none⟩=some (.string (keys i))∧(keys i).size≤maxLen)
theorem VT.In.below {w w':World} (hb:Below w.heap.size w w'):∀ (T:VT),T.In w→T.In w':=by
 intro T
 induction T with
 | nil=>exact id
 | mk kind neg V bits text aL nL cL kids aK nK cK keys ih=>
  rintro ⟨o,l,k,n⟩
  refine ⟨o,?_,fun i hi=>ih i (k i hi),?_⟩
  ·rcases l with l|⟨b,off,e,hl,hc⟩
   ·exact .inl l
   ·exact .inr ⟨b,off,e,Nat.lt_of_lt_of_le hl hb.size,fun i hi j hj=>by rw [hb.cell (p:=⟨b,off+i * 10+j,none⟩) hl];exact hc i hi j hj⟩
  ·rcases n with n|⟨b,off,e,hl,hc⟩
   ·exact .inl n
   ·exact .inr ⟨b,off,e,Nat.lt_of_lt_of_le hl hb.size,fun i hi=>⟨by rw [hb.cell (p:=⟨b,off+i,none⟩) hl];exact (hc i hi).1,(hc i hi).2⟩⟩
def maxN (f:Nat→Nat):Nat→Nat
 | 0=>0
 | n+1=>max (maxN f n) (f n)
def sumN (f:Nat→Nat):Nat→Nat
 | 0=>0
 | n+1=>sumN f n+f n
def VT.depth:VT→Nat
 | .nil=>0
 | .mk _ _ _ _ _ _ nL _ kids _ _ _ _=>maxN (fun i=>(kids i).depth) nL+1
def VT.nodes:VT→Nat
 | .nil=>0
 | .mk _ _ _ _ _ _ nL _ kids _ _ _ _=>sumN (fun i=>(kids i).nodes) nL+1
theorem keep_cell {w1 w2:World} {p:Addr} {v:Value} (hb:Below w1.heap.size w1 w2) (h:w1.cell? p=some v):w2.cell? p=some v:=by
 rw [hb.cell (p:=p) (World.block_lt_of_cell? w1 _ h)]
 exact h
theorem kid_lit {w wr:World} {aL:Option Addr} {nL i:Nat} {kids:Nat→VT} (hL:nL=0∨∃ b off,aL=some ⟨b,off,none⟩∧b < w.heap.size∧∀ i,i < nL→∀ j,j < 10→w.cell? ⟨b,off+i * 10+j,none⟩=(kids i).cells[j]?)
  (hK:∀ i,i < nL→(kids i).In w) (hi:i < nL) (hB:Below w.heap.size w wr) :
  ∃ (b off:Nat) (kind:Int) (neg:Bool) (V bits:Nat) (text:ByteArray) (aL':Option Addr) (nL' cL':Nat) (kids':Nat→VT) (aK:Option Addr) (nK cK:Nat) (keys:Nat→ByteArray),
   aL=some ⟨b,off,none⟩∧b < w.heap.size∧kids i=.mk kind neg V bits text aL' nL' cL' kids' aK nK cK keys ∧
   (wr.cell? ⟨b,off+i * 10,none⟩=some (.int .i64 kind)∧wr.cell? ⟨b,off+i * 10+1,none⟩=some (.bool neg)∧wr.cell? ⟨b,off+i * 10+2,none⟩=some (.int .u64 (lm V 0:Nat)) ∧
   wr.cell? ⟨b,off+i * 10+3,none⟩=some (.int .u64 (lm V 1:Nat))∧wr.cell? ⟨b,off+i * 10+4,none⟩=some (.int .u64 (lm V 2:Nat))∧wr.cell? ⟨b,off+i * 10+5,none⟩=some (.int .u64 (lm V 3:Nat)) ∧
   wr.cell? ⟨b,off+i * 10+6,none⟩=some (.int .u64 (bits:Nat))∧wr.cell? ⟨b,off+i * 10+7,none⟩=some (.string text)∧wr.cell? ⟨b,off+i * 10+8,none⟩=some (.slice aL' nL' cL') ∧
   wr.cell? ⟨b,off+i * 10+9,none⟩=some (.slice aK nK cK))∧(kids i).In wr:=by
 obtain ⟨b,off,rfl,hb,hc⟩:∃ b off,aL=some ⟨b,off,none⟩∧b < w.heap.size∧∀ i,i < nL→∀ j,j < 10→w.cell? ⟨b,off+i * 10+j,none⟩=(kids i).cells[j]? := by
  rcases hL with h|h
  ·omega
  ·exact h
 have hk:=hK i hi
 have hk2:=VT.In.below hB _ hk
 have hc:=hc i hi
 generalize kids i=T at hk hk2 hc
 cases T with
 | nil=>exact hk.elim
 | mk kind neg V bits text aL' nL' cL' kids' aK nK cK keys=>
  have hw:∀ j,j < 10→wr.cell? ⟨b,off+i * 10+j,none⟩=(VT.cells (.mk kind neg V bits text aL' nL' cL' kids' aK nK cK keys))[j]? := fun j hj=>by
   rw [hB.cell (p:=⟨b,off+i * 10+j,none⟩) hb]
   exact hc j hj
  exact ⟨b,off,kind,neg,V,bits,text,aL',nL',cL',kids',aK,nK,cK,keys,rfl,hb,rfl,⟨hw 0 z0c,hw 1 z0c,hw 2 z0c,hw 3 z0c,hw 4 z0c,hw 5 z0c,hw 6 z0c,hw 7 z0c,hw 8 z0c,hw 9 z0c⟩,hk2⟩
theorem key_lit {w wr:World} {aK:Option Addr} {nK i:Nat} {keys:Nat→ByteArray} (hK:nK=0∨∃ b off,aK=some ⟨b,off,none⟩∧b < w.heap.size∧∀ i,i < nK→w.cell? ⟨b,off+i,none⟩=some (.string (keys i))∧(keys i).size≤maxLen)
  (hi:i < nK) (hB:Below w.heap.size w wr):∃ b off:Nat,aK=some ⟨b,off,none⟩∧b < w.heap.size∧wr.cell? ⟨b,off+i,none⟩=some (.string (keys i))∧(keys i).size≤maxLen:=by
 rcases hK with h|⟨b,off,rfl,hb,hc⟩
 ·omega
 ·exact ⟨b,off,rfl,hb,by rw [hB.cell (p:=⟨b,off+i,none⟩) hb];exact (hc i hi).1,(hc i hi).2⟩
theorem sumN_le {f : Nat → Nat} {n i : Nat} (hi : i ≤ n) : sumN f i ≤ sumN f n := by
  induction n with
  | zero => have : i = 0 := by omega
            subst this; exact Nat.le_refl _
  | succ n ih =>
    by_cases h : i ≤ n
    · exact Nat.le_trans (ih h) (Nat.le_add_right _ _)
    · have : i = n + 1 := by omega
      subst this
      exact Nat.le_refl _
theorem sumN_one {f:Nat→Nat} {n i:Nat} (hi:i < n):f i≤sumN f n:=
 Nat.le_trans (Nat.le_add_left _ _) (sumN_le (f:=f) (show i+1≤n from hi))
theorem VT.depth_nodes:∀ T:VT,T.depth≤T.nodes:=by
 intro T
 induction T with
 | nil=>exact Nat.le_refl _
 | mk kind neg V bits text aL nL cL kids aK nK cK keys ih=>
  simp only [VT.depth,VT.nodes]
  have:∀ n,maxN (fun i=>(kids i).depth) n≤sumN (fun i=>(kids i).nodes) n:=by
   intro n
   induction n with
   | zero=>exact Nat.le_refl _
   | succ n ih2=>
    simp only [maxN,sumN]
    have:=ih n
    omega
  have:=this nL
  omega
theorem VT.nodes_kid {kind:Int} {neg:Bool} {V bits:Nat} {text:ByteArray} {aL:Option Addr} {nL cL:Nat} {kids:Nat→VT} {aK:Option Addr} {nK cK:Nat} {keys:Nat→ByteArray} {M i:Nat}
  (h:(VT.mk kind neg V bits text aL nL cL kids aK nK cK keys).nodes < M) (hi:i < nL):(kids i).nodes < M:=by
 have:=sumN_one (f:=fun i=>(kids i).nodes) hi
 simp only [VT.nodes] at h
 omega
theorem VT.nodes_sum {kind:Int} {neg:Bool} {V bits:Nat} {text:ByteArray} {aL:Option Addr} {nL cL:Nat} {kids:Nat→VT} {aK:Option Addr} {nK cK:Nat} {keys:Nat→ByteArray} {M k:Nat}
  (h:(VT.mk kind neg V bits text aL nL cL kids aK nK cK keys).nodes < M) (hk:k≤nL):sumN (fun i=>(kids i).nodes) k < M:=by
 have:=sumN_le (f:=fun i=>(kids i).nodes) hk
 simp only [VT.nodes] at h
 omega
theorem maxN_sumN {f g:Nat→Nat} (h:∀ i,f i≤g i):∀ n,maxN f n≤sumN g n:=by
 intro n
 induction n with
 | zero=>exact Nat.le_refl _
 | succ n ih=>
  simp only [maxN,sumN]
  have:=ih
  have:=h n
  omega
def anyN (p:Nat→Bool):Nat→Bool
 | 0=>false
 | k+1=>anyN p k || p k
theorem anyN_of {p:Nat→Bool} {k n:Nat} (h:p k=true) (hk:k < n):anyN p n=true:=by
 induction n with
 | zero=>omega
 | succ n ih=>
  simp only [anyN,Bool.or_eq_true]
  by_cases c:k < n
  ·exact .inl (ih c)
  ·have:k=n:=by omega
   subst this
   exact .inr h
theorem anyN_no {p:Nat→Bool} {n k:Nat} (h:anyN p n=false) (hk:k < n):p k=false:=by
 cases hp:p k
 ·rfl
 ·rw [anyN_of hp hk] at h;cases h
def fewS (f:Nat→Nat):Nat→Nat
 | 0=>1
 | k+1=>if fewS f k < 1000 then fewS f k+f k else fewS f k
theorem fewS_stop {f : Nat → Nat} {k n : Nat} (h : ¬ fewS f k < 1000) (hk : k ≤ n) : fewS f n = fewS f k := by
  induction n with
  | zero => have : k = 0 := by omega
            subst this; rfl
  | succ n ih =>
    by_cases c : k ≤ n
    · have := ih c
      simp only [fewS]
      rw [this, if_neg h]
    · have : k = n + 1 := by omega
      subst this
      rfl
def VT.few:VT→Nat→Nat
 | .nil,_=>1000
 | .mk _ _ _ _ text _ nL _ kids _ nK _ keys,d=>if d=0∨300 < text.size∨400 < nK∨400 < nL then 1000 else if anyN (fun i=>decide (300 < (keys i).size)) nK=true then 1000 else fewS (fun i=>(kids i).few (d - 1)) nL
theorem fewS_le {f:Nat→Nat} {M:Nat}:∀ n,(∀ i,i < n→f i≤M)→fewS f n≤M+1000:=by
 intro n
 induction n with
 | zero=>intro _;simp only [fewS];omega
 | succ n ih=>
  intro h
  have h1:=ih fun i hi=>h i z0c
  have h2:=h n z0c
  simp only [fewS]
  split <;> omega
theorem VT.few_le:∀ (T:VT) (d:Nat),T.few d≤1000 * (d+1):=by
 intro T
 induction T with
 | nil=>intro d;simp only [VT.few];omega
 | mk kind neg V bits text aL nL cL kids aK nK cK keys ih=>
  intro d
  simp only [VT.few]
  split
  ·omega
  ·split
   ·omega
   ·rename_i h _
    have:=fewS_le (f:=fun i=>(kids i).few (d - 1)) (M:=1000 * (d - 1+1)) nL fun i _=>ih i (d - 1)
    have hd:d≠0:=fun e=>h (.inl e)
    omega
theorem fewS_nodes {f g:Nat→Nat} {n:Nat} (h:fewS f n≤400) (hfg:∀ i,i < n→f i≤400→f i=g i):fewS f n=sumN g n+1∧∀ i,i < n→f i≤400:=by
 induction n with
 | zero=>exact ⟨rfl,fun i hi=>by omega⟩
 | succ n ih=>
  simp only [fewS] at h ⊢
  split at h
  ·rename_i c
   obtain ⟨e,ha⟩:=ih z0c fun i hi=>hfg i z0c
   rw [if_pos c]
   have hn:f n≤400:=by omega
   refine ⟨by simp only [sumN];rw [e,hfg n z0c hn];omega,fun i hi=>?_⟩
   by_cases ci:i < n
   ·exact ha i ci
   ·have:i=n:=by omega
    subst this
    exact hn
  ·omega
theorem VT.few_nodes:∀ (T:VT) (d:Nat),T.few d≤400→T.few d=T.nodes∧T.depth≤d:=by
 intro T
 induction T with
 | nil=>intro d h;simp only [VT.few] at h;omega
 | mk kind neg V bits text aL nL cL kids aK nK cK keys ih=>
  intro d h
  simp only [VT.few] at h ⊢
  split at h
  ·omega
  ·split at h
   ·omega
   ·rename_i c1 c2
    rw [if_neg c1,if_neg c2]
    obtain ⟨e,ha⟩:=fewS_nodes (g:=fun i=>(kids i).nodes) h fun i _ hf=>(ih i (d - 1) hf).1
    refine ⟨e,?_⟩
    have hm:∀ n,n≤nL→maxN (fun i=>(kids i).depth) n≤d - 1:=by
     intro n
     induction n with
     | zero=>intro _;exact Nat.zero_le _
     | succ n ihn=>
      intro hn
      have h1:=ihn z0c
      have h2:=(ih n (d - 1) (ha n z0c)).2
      simp only [maxN]
      omega
    have:=hm nL (Nat.le_refl _)
    have hd:d≠0:=fun e=>c1 (.inl e)
    simp only [VT.depth]
    omega
theorem few_any:∀ (T:VT) (w:World) (d:Nat),T.In w→d≤1000000 →
  Calls Tryz.prog 16 #[T.agg,.int .i64 (d:Nat)] w fun e w'=>e=.returned (.int .i64 (T.few d:Nat))∧Below w.heap.size w w':=by
 intro T
 induction T with
 | nil=>exact fun w d h=>h.elim
 | mk kind neg V bits text aL nL cL kids aK nK cK keys ih=>
  intro w d hin hd
  obtain ⟨o,hL,hk,hKy⟩:=hin
  simp only [VT.agg,VT.cells,VT.few]
  obtain ⟨D,hD⟩:∃ D:Nat→Nat,D=fun n=>fewS (fun i=>(kids i).few (d - 1)) n:=⟨_,rfl⟩
  obtain ⟨A,hA⟩:∃ D:Nat→Bool,D=fun n=>anyN (fun i=>decide (300 < (keys i).size)) n:=⟨_,rfl⟩
  obtain ⟨R,hR⟩:∃ R,R=(if d=0∨300 < text.size∨400 < nK∨400 < nL then 1000 else if anyN (fun i=>decide (300 < (keys i).size)) nK=true then 1000 else fewS (fun i=>(kids i).few (d - 1)) nL):=⟨_,rfl⟩
  rw [← hR]
  have hDB:∀ n,D n≤1000 * (d - 1+1)+1000:=fun n=>by
   rw [hD]
   exact fewS_le n fun i _=>VT.few_le _ _
  have HL:=Lib.hid hL
  have HK:=Lib.hid hk
  have HKy:=Lib.hid hKy
  have HD:=Lib.hid hD
  have HA:=Lib.hid hA
  have HR:=Lib.hid hR
  have HB:=Lib.hid hDB
  have IH:=Lib.hid ih
  have hcL:=o.lc
  have hlL:=o.l
  have hcK:=o.nc
  have hlK:=o.n
  have ht:=o.t
  clear hL hk hD hA hR hDB ih hKy
  simp only [maxLen] at hcL hcK ht
  by_cases c0:d=0
  ·subst c0
   have e:=HR.out
   rw [if_pos (.inl rfl)] at e
   subst e
   exact z2zk1
  have c0i:((d:Int) == 0)=false:=by simp;omega
  by_cases c1:300 < text.size
  ·have e:=HR.out
   rw [if_pos (.inr (.inl c1))] at e
   subst e
   have c1i:(300:Int) < (text.size:Int):=by omega
   exact z2zk1
  have c1i:¬ (300:Int) < (text.size:Int):=by omega
  by_cases c2:400 < nK
  ·have e:=HR.out
   rw [if_pos (.inr (.inr (.inl c2)))] at e
   subst e
   have c2i:(400:Int) < (nK:Int):=by omega
   exact z2zk1
  have c2i:¬ (400:Int) < (nK:Int):=by omega
  by_cases c3:400 < nL
  ·have e:=HR.out
   rw [if_pos (.inr (.inr (.inr c3)))] at e
   subst e
   have c3i:(400:Int) < (nL:Int):=by omega
   exact z2zk1
  have c3i:¬ (400:Int) < (nL:Int):=by omega
  have e:=HR.out
  rw [if_neg z0c] at e
  have HE:=Lib.hid e
  clear c0 c1 c2 c3 e
  go_enter Tryz.func16,Tryz.ntmps16
  repeat any_goals (first|go_skip|go_guarded|go_step|go_upon|(simp only [];done))
  obtain ⟨wo,hwo⟩:∃ wo,wo=w.alloc (.cells #[.int .i64 kind,.bool neg,.int .u64 (lm V 0:Nat),.int .u64 (lm V 1:Nat),.int .u64 (lm V 2:Nat),.int .u64 (lm V 3:Nat),.int .u64 (bits:Nat),.string text,.slice aL nL cL,.slice aK nK cK] 31):=⟨_,rfl⟩
  have hBo:Below w.heap.size w wo:=by rw [hwo];exact zb2
  have h8:wo.cell? ⟨w.heap.size,8,none⟩=some (.slice aL nL cL):=by rw [hwo];simp [go_sem]
  have h9:wo.cell? ⟨w.heap.size,9,none⟩=some (.slice aK nK cK):=by rw [hwo];simp [go_sem]
  rw [← hwo]
  clear hwo
  go_loop [5] (fun i=>∃ k:Nat,k≤nK∧i=.int .i64 k∧anyN (fun i=>decide (300 < (keys i).size)) k=false) (fun i=>nK - (intOf i).toNat)
  case atStart=>exact ⟨0,Nat.zero_le _,rfl,rfl⟩
  case round=>
   obtain ⟨k,hk,rfl,hA⟩:=hrel
   have HA1:=Lib.hid hA
   clear hA
   by_cases hkn:k < nK
   ·obtain ⟨b,off,rfl,hb,hc,hs⟩:=key_lit HKy.out hkn hBo
    simp only [maxLen] at hs
    have i1:(k:Int) < (nK:Int):=by omega
    have i2:(0:Int)≤(k:Int):=by omega
    have i5:(k:Int).toNat=k:=rfl
    by_cases c1:300 < (keys k).size
    ·have c1i:(300:Int) < ((keys k).size:Int):=by omega
     have e:=HE.out
     rw [if_pos (anyN_of (p:=fun i=>decide (300 < (keys i).size)) (decide_eq_true c1) hkn)] at e
     subst e
     repeat any_goals (first|go_skip|go_guarded|go_step|go_upon|(simp only [];done))
     exact bodyPost_ret (v:=.int .i64 1000) z0k1 rfl ⟨rfl,hBo⟩
    ·have c1i:¬ (300:Int) < ((keys k).size:Int):=by omega
     repeat any_goals (first|go_skip|go_guarded|go_step|go_upon|(simp only [];done))
     go_round
     case rel=>exact ⟨k+1,by omega,rfl,by simp only [anyN];rw [HA1.out,decide_eq_false c1];rfl⟩
     case measure=>simp [intOf];omega
   ·have hk':k=nK:=by omega
    subst hk'
    have i1:¬ (k:Int) < (k:Int):=by omega
    have e:=HE.out
    rw [if_neg (by rw [HA1.out];exact Bool.false_ne_true)] at e
    have HE2:=Lib.hid e
    clear e
    repeat any_goals (first|go_skip|go_guarded|go_step|go_upon|(simp only [];done))
    go_loopw [6,7] (fun n i wr=>∃ j:Nat,j≤nL∧i=.int .i64 j∧n=.int .i64 (D j:Nat)∧wr.cell? ⟨w.heap.size,8,none⟩=some (.slice aL nL cL)∧Below w.heap.size w wr) (fun _ i _=>nL - (intOf i).toNat)
    case atStart=>exact ⟨0,Nat.zero_le _,rfl,by rw [HD.out];rfl,h8,hBo⟩
    case round=>
     obtain ⟨j,hj,rfl,rfl,h8,hW⟩:=hrel
     have hDj:=HB.out j
     by_cases hjn:j < nL
     ·by_cases hD1:D j < 1000
      ·obtain ⟨b,off,kind',neg',V',bits',text',aL',nL',cL',kids',aK',nK',cK',keys',rfl,hb,hkid,⟨c0,c1,c2,c3,c4,c5,c6,c7,c8,c9⟩,hin'⟩:=kid_lit HL.out HK.out hjn hW
       have i1:(j:Int) < (nL:Int):=by omega
       have i2:(0:Int)≤(j:Int):=by omega
       have i5:(j:Int).toNat=j:=rfl
       have i6:(D j:Int) < 1000:=by omega
       obtain ⟨x,hx⟩:∃ x:Nat,x=(kids j).few (d - 1):=⟨_,rfl⟩
       have hxB:x≤1000 * (d - 1+1):=hx ▸ VT.few_le _ _
       have HC:∀ w'':World,Below wr.heap.size wr w''→Calls Tryz.prog 16 #[(kids j).agg,.int .i64 ((d:Int) - 1)] w'' fun e w'=>e=.returned (.int .i64 (x:Nat))∧Below w''.heap.size w'' w':=fun w'' hb=>by
        have:=IH.out j w'' (d - 1) (hin'.below hb) z0c
        rw [← hx,show ((d - 1:Nat):Int)=(d:Int) - 1 from by simp at c0i;omega] at this
        exact this
       rw [hkid] at HC
       simp only [VT.agg,VT.cells] at HC
       have HC:=Lib.hid HC
       have HX:=Lib.hid hx
       clear hin' hkid hx
       repeat any_goals (first|(go_at_call 16;refine (HC.out _ zb2).mono ?_;rintro e w1 ⟨rfl,hb1⟩)|go_skip|go_guarded|go_step|go_upon|(dsimp only []))
       go_roundw
       case rel=>
        refine ⟨j+1,by omega,rfl,?_,keep_cell hb1 (keep_cell (w1:=wr) zb2 h8),zb2⟩
        rw [HD.out] at hD1 ⊢
        simp only [fewS]
        rw [← HX.out,if_pos hD1]
        congr 1
       case measure=>simp [intOf];omega
      ·have i1:(j:Int) < (nL:Int):=by omega
       have i6:¬ (D j:Int) < 1000:=by omega
       have e:=HE2.out
       rw [fewS_stop (k:=j) (by rw [HD.out] at hD1;exact hD1) hj] at e
       have e:R=D j:=by rw [e,HD.out]
       exact z2zk2
     ·have hj':j=nL:=by omega
      subst hj'
      have i1:¬ (j:Int) < (j:Int):=by omega
      have e:R=D j:=by rw [HE2.out,HD.out]
      exact z2zk2
end Go.Proofs.YtfondldmmcmloaaGreatDoor
