/- Rd6. -/
import Derived.Test.YtfondldmmcmloaaGreatDoorPb18
set_option maxRecDepth 1000000
set_option maxHeartbeats 8000000
namespace Go.Proofs.YtfondldmmcmloaaGreatDoor
open Go Go.RowKit
theorem z19zk1 {p:Prop} (h:p:=by
 go_enter Tryz.func97,Tryz.ntmps97
 repeat any_goals (first|(go_at_call 112;refine (RWhole_any b hb _).mono ?_;rintro e w1 ⟨rfl,hb1⟩)|(go_at_call 113;with_reducible refine (rparts_any b hb _).mono ?_;rintro e w2 ⟨v2,rfl,hv2,hb2⟩)|(go_at_call 114;refine (RBehind_any b hb _).mono ?_;rintro e w3 ⟨rfl,hb3⟩)|(go_at_call 114;refine (RBehind_any b hb _).mono ?_;rintro e w4 ⟨rfl,hb4⟩)|go_skip|go_guarded|go_step|go_upon|(dsimp only []))
 go_ret
 exact ⟨by simp,zb2⟩):p:=h
theorem z19zk2 {p:Prop} (h:p:=by
 refine bodyPost_ret (v:=.tuple #[.agg #[.bool false,.int .u64 0,.int .u64 0,.int .u64 0,.int .u64 0],.bool false]) ?_ rfl ⟨rfl,zb1⟩
 simp [results,Tryz.results112,go_sem,c_w2_0_0,c_w2_0_1,c_w2_0_2,c_w2_0_3,c_w2_0_4]):p:=h
end Go.Proofs.YtfondldmmcmloaaGreatDoor
namespace Go.Proofs.YtfondldmmcmloaaGreatDoor
open Go.RowKit
structure RN (w0:World) (v:Value) (a0 a1 a2 a3:Nat) (ok:Bool):Prop where
 c:∀ w:World,Below w0.heap.size w0 w→Calls Tryz.prog 132 #[v] w fun e w'=>e=.returned (.tuple #[.agg #[.int .u64 a0,.int .u64 a1,.int .u64 a2,.int .u64 a3],.bool ok])∧Below w.heap.size w w'
theorem rwhole_no (neg:Bool) (v:Value) (w:World) (C:Hid (RN w v 0 0 0 0 false)) :
  Calls Tryz.prog 127 #[.bool neg,v] w fun e w'=>e=.returned (.tuple #[.agg #[.bool false,.int .u64 0,.int .u64 0,.int .u64 0,.int .u64 0],.bool false])∧Below w.heap.size w w':=by
 go_enter Tryz.func127,Tryz.ntmps127
 repeat any_goals (first|(go_at_call 132;refine (C.out.c _ (below_alloc (Below.refl _ _) _)).mono ?_;rintro e w1 ⟨rfl,hb1⟩;have hl_w1_0:w.heap.size < w1.heap.size:=z0u;have c_w1_0_0:=(hb1).cell (p:=⟨w.heap.size,0,none⟩) z0b;simp [go_sem] at c_w1_0_0;have f_w1_0_0:=(hb1).frozen (p:=⟨w.heap.size,0,none⟩) z0b;simp [go_sem] at f_w1_0_0;have c_w1_0_1:=(hb1).cell (p:=⟨w.heap.size,1,none⟩) z0b;simp [go_sem] at c_w1_0_1;have f_w1_0_1:=(hb1).frozen (p:=⟨w.heap.size,1,none⟩) z0b;simp [go_sem] at f_w1_0_1;have c_w1_0_2:=(hb1).cell (p:=⟨w.heap.size,2,none⟩) z0b;simp [go_sem] at c_w1_0_2;have f_w1_0_2:=(hb1).frozen (p:=⟨w.heap.size,2,none⟩) z0b;simp [go_sem] at f_w1_0_2;have c_w1_0_3:=(hb1).cell (p:=⟨w.heap.size,3,none⟩) z0b;simp [go_sem] at c_w1_0_3;have f_w1_0_3:=(hb1).frozen (p:=⟨w.heap.size,3,none⟩) z0b;simp [go_sem] at f_w1_0_3;have c_w1_0_4:=(hb1).cell (p:=⟨w.heap.size,4,none⟩) z0b;simp [go_sem] at c_w1_0_4;have f_w1_0_4:=(hb1).frozen (p:=⟨w.heap.size,4,none⟩) z0b;simp [go_sem] at f_w1_0_4)|go_skip|go_guarded|go_step|go_upon|(dsimp only []))
 refine bodyPost_ret (v:=.tuple #[.agg #[.bool false,.int .u64 0,.int .u64 0,.int .u64 0,.int .u64 0],.bool false]) ?_ rfl ⟨rfl,zb1⟩
 simp [results,Tryz.results127,go_sem,hl_w1_0,c_w1_0_0,c_w1_0_1,c_w1_0_2,c_w1_0_3,c_w1_0_4]
theorem rwhole_yes (neg:Bool) (a0 a1 a2 a3:Nat) (v:Value) (w:World) (C:Hid (RN w v a0 a1 a2 a3 true)) :
  Calls Tryz.prog 127 #[.bool neg,v] w fun e w'=>e=.returned (.tuple #[.agg #[.bool (neg && !(decide (a0=0∧a1=0∧a2=0∧a3=0))),.int .u64 a0,.int .u64 a1,.int .u64 a2,.int .u64 a3],.bool true])∧Below w.heap.size w w':=by
 go_enter Tryz.func127,Tryz.ntmps127
 repeat any_goals (first|(go_at_call 132;refine (C.out.c _ (below_alloc (Below.refl _ _) _)).mono ?_;rintro e w1 ⟨rfl,hb1⟩;have hl_w1_0:w.heap.size < w1.heap.size:=z0u;have c_w1_0_0:=(hb1).cell (p:=⟨w.heap.size,0,none⟩) z0b;simp [go_sem] at c_w1_0_0;have f_w1_0_0:=(hb1).frozen (p:=⟨w.heap.size,0,none⟩) z0b;simp [go_sem] at f_w1_0_0;have c_w1_0_1:=(hb1).cell (p:=⟨w.heap.size,1,none⟩) z0b;simp [go_sem] at c_w1_0_1;have f_w1_0_1:=(hb1).frozen (p:=⟨w.heap.size,1,none⟩) z0b;simp [go_sem] at f_w1_0_1;have c_w1_0_2:=(hb1).cell (p:=⟨w.heap.size,2,none⟩) z0b;simp [go_sem] at c_w1_0_2;have f_w1_0_2:=(hb1).frozen (p:=⟨w.heap.size,2,none⟩) z0b;simp [go_sem] at f_w1_0_2;have c_w1_0_3:=(hb1).cell (p:=⟨w.heap.size,3,none⟩) z0b;simp [go_sem] at c_w1_0_3;have f_w1_0_3:=(hb1).frozen (p:=⟨w.heap.size,3,none⟩) z0b;simp [go_sem] at f_w1_0_3;have c_w1_0_4:=(hb1).cell (p:=⟨w.heap.size,4,none⟩) z0b;simp [go_sem] at c_w1_0_4;have f_w1_0_4:=(hb1).frozen (p:=⟨w.heap.size,4,none⟩) z0b;simp [go_sem] at f_w1_0_4)|go_skip|go_guarded|go_step|go_upon|(dsimp only []))
 cases neg with
 | false=>
  (refine still_tail 8 z0a z0a ?_;simp only [List.take_succ_cons,List.take_zero,List.drop_succ_cons,List.drop_zero];(repeat still_step);refine wpStill_nil ?_)
  repeat any_goals (first|go_skip|go_guarded|go_step|go_upon|(simp only [];done))
  refine bodyPost_ret (v:=.tuple #[.agg #[.bool false,.int .u64 a0,.int .u64 a1,.int .u64 a2,.int .u64 a3],.bool true]) ?_ rfl ⟨rfl,zb1⟩
  simp [results,Tryz.results127,go_sem,hl_w1_0,c_w1_0_0,c_w1_0_1,c_w1_0_2,c_w1_0_3,c_w1_0_4]
 | true=>
  (refine still_tail 8 z0a z0a ?_;simp only [List.take_succ_cons,List.take_zero,List.drop_succ_cons,List.drop_zero];(repeat still_step);refine wpStill_nil ?_)
  repeat any_goals (first|go_skip|go_guarded|go_step|go_upon|(simp only [];done))
  refine bodyPost_ret (v:=.tuple #[.agg #[.bool (true && !(decide (a0=0∧a1=0∧a2=0∧a3=0))),.int .u64 a0,.int .u64 a1,.int .u64 a2,.int .u64 a3],.bool true]) ?_ rfl ⟨rfl,zb1⟩
  have z:∀ a:Nat,((a:Int) == 0)=decide (a=0):=fun a=>by rw [Bool.eq_iff_iff];simp
  simp [results,Tryz.results127,go_sem,hl_w1_0,c_w1_0_0,c_w1_0_1,c_w1_0_2,c_w1_0_3,c_w1_0_4,z,Bool.or_assoc]
theorem rwhole_any (neg:Bool) (v:Value) (n V:Nat) (w:World) (h:DN w v n V) :
  Calls Tryz.prog 127 #[.bool neg,v] w fun e w'=>e=.returned (.tuple #[.agg #[.bool (decide (V < 2 ^ 256) && neg && decide (V≠0) ),.int .u64 (lm ( if V < 2 ^ 256 then V else 0) 0:Nat),.int .u64 (lm ( if V < 2 ^ 256 then V else 0) 1:Nat),.int .u64 (lm ( if V < 2 ^ 256 then V else 0) 2:Nat),.int .u64 (lm ( if V < 2 ^ 256 then V else 0) 3:Nat)],.bool (decide (V < 2 ^ 256))])∧Below w.heap.size w w':=by
 by_cases c:V < 2 ^ 256
 ·rw [decide_eq_true c,if_pos c,Bool.true_and]
  have C:RN w v (lm V 0) (lm V 1) (lm V 2) (lm V 3) true:=⟨fun w1 hb=>by
   have k:=DNat_any v n V w1 (h.below hb)
   rw [decide_eq_true c,if_pos c] at k
   exact k⟩
  have k:=rwhole_yes neg _ _ _ _ v w (Lib.hid C)
  have e:(!(decide (lm V 0=0∧lm V 1=0∧lm V 2=0∧lm V 3=0)))=decide (V≠0):=by
   rw [Bool.eq_iff_iff]
   simp only [Bool.not_eq_true',decide_eq_false_iff_not,decide_eq_true_eq]
   constructor
   ·intro h1 h2
    subst h2
    exact h1 ⟨lm_zero 0,lm_zero 1,lm_zero 2,lm_zero 3⟩
   ·intro h1 h2
    exact h1 (lm_inj c z0e (by rw [h2.1,lm_zero]) (by rw [h2.2.1,lm_zero]) (by rw [h2.2.2.1,lm_zero]) (by rw [h2.2.2.2,lm_zero]))
  rw [e] at k
  exact k
 ·rw [decide_eq_false c,if_neg c,Bool.false_and,Bool.false_and,lm_zero,lm_zero,lm_zero,lm_zero]
  have C:RN w v 0 0 0 0 false:=⟨fun w1 hb=>by
   have k:=DNat_any v n V w1 (h.below hb)
   rw [decide_eq_false c,if_neg c,lm_zero,lm_zero,lm_zero,lm_zero] at k
   exact k⟩
  exact rwhole_no neg v w (Lib.hid C)
theorem RWhole_no1 (b:Nat) (s:Bool) (p:Int) (M:Nat) (w:World) (C:Hid (RP b s p false M)) :
  Calls Tryz.prog 112 #[.int .u64 b] w fun e w'=>e=.returned (.tuple #[.agg #[.bool false,.int .u64 0,.int .u64 0,.int .u64 0,.int .u64 0],.bool false])∧Below w.heap.size w w':=by
 go_enter Tryz.func112,Tryz.ntmps112
 repeat any_goals (first|(go_at_call 113;with_reducible refine (C.out.c _).mono ?_;rintro e w1 ⟨v1,rfl,hv1,hb1⟩;have hl_w1_0:w.heap.size < w1.heap.size:=z0u;have c_w1_0_0:=(hb1).cell (p:=⟨w.heap.size,0,none⟩) z0b;simp [go_sem] at c_w1_0_0;have f_w1_0_0:=(hb1).frozen (p:=⟨w.heap.size,0,none⟩) z0b;simp [go_sem] at f_w1_0_0;have c_w1_0_1:=(hb1).cell (p:=⟨w.heap.size,1,none⟩) z0b;simp [go_sem] at c_w1_0_1;have f_w1_0_1:=(hb1).frozen (p:=⟨w.heap.size,1,none⟩) z0b;simp [go_sem] at f_w1_0_1;have c_w1_0_2:=(hb1).cell (p:=⟨w.heap.size,2,none⟩) z0b;simp [go_sem] at c_w1_0_2;have f_w1_0_2:=(hb1).frozen (p:=⟨w.heap.size,2,none⟩) z0b;simp [go_sem] at f_w1_0_2;have c_w1_0_3:=(hb1).cell (p:=⟨w.heap.size,3,none⟩) z0b;simp [go_sem] at c_w1_0_3;have f_w1_0_3:=(hb1).frozen (p:=⟨w.heap.size,3,none⟩) z0b;simp [go_sem] at f_w1_0_3;have c_w1_0_4:=(hb1).cell (p:=⟨w.heap.size,4,none⟩) z0b;simp [go_sem] at c_w1_0_4;have f_w1_0_4:=(hb1).frozen (p:=⟨w.heap.size,4,none⟩) z0b;simp [go_sem] at f_w1_0_4)|go_skip|go_guarded|go_step|go_upon|(dsimp only []))
 refine bodyPost_ret (v:=.tuple #[.agg #[.bool false,.int .u64 0,.int .u64 0,.int .u64 0,.int .u64 0],.bool false]) ?_ rfl ⟨rfl,zb1⟩
 simp [results,Tryz.results112,go_sem,c_w1_0_0,c_w1_0_1,c_w1_0_2,c_w1_0_3,c_w1_0_4]
structure RWC (b:Nat) (s:Bool) (p:Int) (M r l:Nat):Prop where
 c:∀ w:World,Calls Tryz.prog 113 #[.int .u64 b] w fun e w'=>∃ v,e=.returned (.tuple #[.bool s,v,.int .i64 p,.bool true])∧IsD w' v M∧Below w.heap.size w w'
 d:∀ w:World,Calls Tryz.prog 114 #[.int .u64 b] w fun e w'=>e=.returned (.int .i64 (r:Nat))∧Below w.heap.size w w'
 e:∀ (v:Value) (w:World),IsD w v M→Calls Tryz.prog 110 #[v] w fun e w'=>e=.returned (.int .i64 (l:Nat))∧w=w'
theorem RWhole_no2 (b:Nat) (s:Bool) (p:Int) (M r l:Nat) (w:World) (hr:0 < (r:Int)) (C:Hid (RWC b s p M r l)) :
  Calls Tryz.prog 112 #[.int .u64 b] w fun e w'=>e=.returned (.tuple #[.agg #[.bool false,.int .u64 0,.int .u64 0,.int .u64 0,.int .u64 0],.bool false])∧Below w.heap.size w w':=by
 go_enter Tryz.func112,Tryz.ntmps112
 repeat any_goals (first|(go_at_call 113;with_reducible refine (C.out.c _).mono ?_;rintro e w1 ⟨v1,rfl,hv1,hb1⟩;have hl_w1_0:w.heap.size < w1.heap.size:=z0u;have c_w1_0_0:=(hb1).cell (p:=⟨w.heap.size,0,none⟩) z0b;simp [go_sem] at c_w1_0_0;have f_w1_0_0:=(hb1).frozen (p:=⟨w.heap.size,0,none⟩) z0b;simp [go_sem] at f_w1_0_0;have c_w1_0_1:=(hb1).cell (p:=⟨w.heap.size,1,none⟩) z0b;simp [go_sem] at c_w1_0_1;have f_w1_0_1:=(hb1).frozen (p:=⟨w.heap.size,1,none⟩) z0b;simp [go_sem] at f_w1_0_1;have c_w1_0_2:=(hb1).cell (p:=⟨w.heap.size,2,none⟩) z0b;simp [go_sem] at c_w1_0_2;have f_w1_0_2:=(hb1).frozen (p:=⟨w.heap.size,2,none⟩) z0b;simp [go_sem] at f_w1_0_2;have c_w1_0_3:=(hb1).cell (p:=⟨w.heap.size,3,none⟩) z0b;simp [go_sem] at c_w1_0_3;have f_w1_0_3:=(hb1).frozen (p:=⟨w.heap.size,3,none⟩) z0b;simp [go_sem] at f_w1_0_3;have c_w1_0_4:=(hb1).cell (p:=⟨w.heap.size,4,none⟩) z0b;simp [go_sem] at c_w1_0_4;have f_w1_0_4:=(hb1).frozen (p:=⟨w.heap.size,4,none⟩) z0b;simp [go_sem] at f_w1_0_4)|(go_at_call 114;with_reducible refine (C.out.d _).mono ?_;rintro e w2 ⟨rfl,hb2⟩;have hl_w2_0:w.heap.size < w2.heap.size:=(by have h_:=(hb2).size;(try simp at h_);omega);have c_w2_0_0:=(hb2).cell (p:=⟨w.heap.size,0,none⟩) z0b;simp [go_sem,c_w1_0_0] at c_w2_0_0;have f_w2_0_0:=(hb2).frozen (p:=⟨w.heap.size,0,none⟩) z0b;simp [go_sem,f_w1_0_0] at f_w2_0_0;have c_w2_0_1:=(hb2).cell (p:=⟨w.heap.size,1,none⟩) z0b;simp [go_sem,c_w1_0_1] at c_w2_0_1;have f_w2_0_1:=(hb2).frozen (p:=⟨w.heap.size,1,none⟩) z0b;simp [go_sem,f_w1_0_1] at f_w2_0_1;have c_w2_0_2:=(hb2).cell (p:=⟨w.heap.size,2,none⟩) z0b;simp [go_sem,c_w1_0_2] at c_w2_0_2;have f_w2_0_2:=(hb2).frozen (p:=⟨w.heap.size,2,none⟩) z0b;simp [go_sem,f_w1_0_2] at f_w2_0_2;have c_w2_0_3:=(hb2).cell (p:=⟨w.heap.size,3,none⟩) z0b;simp [go_sem,c_w1_0_3] at c_w2_0_3;have f_w2_0_3:=(hb2).frozen (p:=⟨w.heap.size,3,none⟩) z0b;simp [go_sem,f_w1_0_3] at f_w2_0_3;have c_w2_0_4:=(hb2).cell (p:=⟨w.heap.size,4,none⟩) z0b;simp [go_sem,c_w1_0_4] at c_w2_0_4;have f_w2_0_4:=(hb2).frozen (p:=⟨w.heap.size,4,none⟩) z0b;simp [go_sem,f_w1_0_4] at f_w2_0_4)|go_skip|go_guarded|go_step|go_upon|(dsimp only []))
 exact z19zk2
theorem RWhole_no3 (b:Nat) (s:Bool) (p:Int) (M l:Nat) (w:World) (hp1 : -1074≤p) (hp2:p≤972) (hl:l≤53) (hlp:256 < (l:Int)+p) (C:Hid (RWC b s p M 0 l)) :
  Calls Tryz.prog 112 #[.int .u64 b] w fun e w'=>e=.returned (.tuple #[.agg #[.bool false,.int .u64 0,.int .u64 0,.int .u64 0,.int .u64 0],.bool false])∧Below w.heap.size w w':=by
 go_enter Tryz.func112,Tryz.ntmps112
 repeat any_goals (first|(go_at_call 113;with_reducible refine (C.out.c _).mono ?_;rintro e w1 ⟨v1,rfl,hv1,hb1⟩;have hl_w1_0:w.heap.size < w1.heap.size:=z0u;have c_w1_0_0:=(hb1).cell (p:=⟨w.heap.size,0,none⟩) z0b;simp [go_sem] at c_w1_0_0;have f_w1_0_0:=(hb1).frozen (p:=⟨w.heap.size,0,none⟩) z0b;simp [go_sem] at f_w1_0_0;have c_w1_0_1:=(hb1).cell (p:=⟨w.heap.size,1,none⟩) z0b;simp [go_sem] at c_w1_0_1;have f_w1_0_1:=(hb1).frozen (p:=⟨w.heap.size,1,none⟩) z0b;simp [go_sem] at f_w1_0_1;have c_w1_0_2:=(hb1).cell (p:=⟨w.heap.size,2,none⟩) z0b;simp [go_sem] at c_w1_0_2;have f_w1_0_2:=(hb1).frozen (p:=⟨w.heap.size,2,none⟩) z0b;simp [go_sem] at f_w1_0_2;have c_w1_0_3:=(hb1).cell (p:=⟨w.heap.size,3,none⟩) z0b;simp [go_sem] at c_w1_0_3;have f_w1_0_3:=(hb1).frozen (p:=⟨w.heap.size,3,none⟩) z0b;simp [go_sem] at f_w1_0_3;have c_w1_0_4:=(hb1).cell (p:=⟨w.heap.size,4,none⟩) z0b;simp [go_sem] at c_w1_0_4;have f_w1_0_4:=(hb1).frozen (p:=⟨w.heap.size,4,none⟩) z0b;simp [go_sem] at f_w1_0_4)|(go_at_call 114;with_reducible refine (C.out.d _).mono ?_;rintro e w2 ⟨rfl,hb2⟩;have hl_w2_0:w.heap.size < w2.heap.size:=(by have h_:=(hb2).size;(try simp at h_);omega);have c_w2_0_0:=(hb2).cell (p:=⟨w.heap.size,0,none⟩) z0b;simp [go_sem,c_w1_0_0] at c_w2_0_0;have f_w2_0_0:=(hb2).frozen (p:=⟨w.heap.size,0,none⟩) z0b;simp [go_sem,f_w1_0_0] at f_w2_0_0;have c_w2_0_1:=(hb2).cell (p:=⟨w.heap.size,1,none⟩) z0b;simp [go_sem,c_w1_0_1] at c_w2_0_1;have f_w2_0_1:=(hb2).frozen (p:=⟨w.heap.size,1,none⟩) z0b;simp [go_sem,f_w1_0_1] at f_w2_0_1;have c_w2_0_2:=(hb2).cell (p:=⟨w.heap.size,2,none⟩) z0b;simp [go_sem,c_w1_0_2] at c_w2_0_2;have f_w2_0_2:=(hb2).frozen (p:=⟨w.heap.size,2,none⟩) z0b;simp [go_sem,f_w1_0_2] at f_w2_0_2;have c_w2_0_3:=(hb2).cell (p:=⟨w.heap.size,3,none⟩) z0b;simp [go_sem,c_w1_0_3] at c_w2_0_3;have f_w2_0_3:=(hb2).frozen (p:=⟨w.heap.size,3,none⟩) z0b;simp [go_sem,f_w1_0_3] at f_w2_0_3;have c_w2_0_4:=(hb2).cell (p:=⟨w.heap.size,4,none⟩) z0b;simp [go_sem,c_w1_0_4] at c_w2_0_4;have f_w2_0_4:=(hb2).frozen (p:=⟨w.heap.size,4,none⟩) z0b;simp [go_sem,f_w1_0_4] at f_w2_0_4)|(go_at_call 110;refine (C.out.e _ _ (Below.isD hb2 hv1)).mono ?_;rintro e w' ⟨rfl,rfl⟩)|go_skip|go_guarded|go_step|go_upon|(dsimp only []))
 exact z19zk2
theorem RWhole_zero (b:Nat) (s:Bool) (p:Int) (M:Nat) (w:World) (hp1 : -1074≤p) (hp2:p≤256) (C:Hid (RWC b s p M 0 0)) :
  Calls Tryz.prog 112 #[.int .u64 b] w fun e w'=>e=.returned (.tuple #[.agg #[.bool false,.int .u64 0,.int .u64 0,.int .u64 0,.int .u64 0],.bool true])∧Below w.heap.size w w':=by
 go_enter Tryz.func112,Tryz.ntmps112
 repeat any_goals (first|(go_at_call 113;with_reducible refine (C.out.c _).mono ?_;rintro e w1 ⟨v1,rfl,hv1,hb1⟩;have hl_w1_0:w.heap.size < w1.heap.size:=z0u;have c_w1_0_0:=(hb1).cell (p:=⟨w.heap.size,0,none⟩) z0b;simp [go_sem] at c_w1_0_0;have f_w1_0_0:=(hb1).frozen (p:=⟨w.heap.size,0,none⟩) z0b;simp [go_sem] at f_w1_0_0;have c_w1_0_1:=(hb1).cell (p:=⟨w.heap.size,1,none⟩) z0b;simp [go_sem] at c_w1_0_1;have f_w1_0_1:=(hb1).frozen (p:=⟨w.heap.size,1,none⟩) z0b;simp [go_sem] at f_w1_0_1;have c_w1_0_2:=(hb1).cell (p:=⟨w.heap.size,2,none⟩) z0b;simp [go_sem] at c_w1_0_2;have f_w1_0_2:=(hb1).frozen (p:=⟨w.heap.size,2,none⟩) z0b;simp [go_sem] at f_w1_0_2;have c_w1_0_3:=(hb1).cell (p:=⟨w.heap.size,3,none⟩) z0b;simp [go_sem] at c_w1_0_3;have f_w1_0_3:=(hb1).frozen (p:=⟨w.heap.size,3,none⟩) z0b;simp [go_sem] at f_w1_0_3;have c_w1_0_4:=(hb1).cell (p:=⟨w.heap.size,4,none⟩) z0b;simp [go_sem] at c_w1_0_4;have f_w1_0_4:=(hb1).frozen (p:=⟨w.heap.size,4,none⟩) z0b;simp [go_sem] at f_w1_0_4)|(go_at_call 114;with_reducible refine (C.out.d _).mono ?_;rintro e w2 ⟨rfl,hb2⟩;have hl_w2_0:w.heap.size < w2.heap.size:=(by have h_:=(hb2).size;(try simp at h_);omega);have c_w2_0_0:=(hb2).cell (p:=⟨w.heap.size,0,none⟩) z0b;simp [go_sem,c_w1_0_0] at c_w2_0_0;have f_w2_0_0:=(hb2).frozen (p:=⟨w.heap.size,0,none⟩) z0b;simp [go_sem,f_w1_0_0] at f_w2_0_0;have c_w2_0_1:=(hb2).cell (p:=⟨w.heap.size,1,none⟩) z0b;simp [go_sem,c_w1_0_1] at c_w2_0_1;have f_w2_0_1:=(hb2).frozen (p:=⟨w.heap.size,1,none⟩) z0b;simp [go_sem,f_w1_0_1] at f_w2_0_1;have c_w2_0_2:=(hb2).cell (p:=⟨w.heap.size,2,none⟩) z0b;simp [go_sem,c_w1_0_2] at c_w2_0_2;have f_w2_0_2:=(hb2).frozen (p:=⟨w.heap.size,2,none⟩) z0b;simp [go_sem,f_w1_0_2] at f_w2_0_2;have c_w2_0_3:=(hb2).cell (p:=⟨w.heap.size,3,none⟩) z0b;simp [go_sem,c_w1_0_3] at c_w2_0_3;have f_w2_0_3:=(hb2).frozen (p:=⟨w.heap.size,3,none⟩) z0b;simp [go_sem,f_w1_0_3] at f_w2_0_3;have c_w2_0_4:=(hb2).cell (p:=⟨w.heap.size,4,none⟩) z0b;simp [go_sem,c_w1_0_4] at c_w2_0_4;have f_w2_0_4:=(hb2).frozen (p:=⟨w.heap.size,4,none⟩) z0b;simp [go_sem,f_w1_0_4] at f_w2_0_4)|(go_at_call 110;refine (C.out.e _ _ (Below.isD hb2 hv1)).mono ?_;rintro e w' ⟨rfl,rfl⟩)|go_skip|go_guarded|go_step|go_upon|(dsimp only []))
 refine bodyPost_ret (v:=.tuple #[.agg #[.bool false,.int .u64 0,.int .u64 0,.int .u64 0,.int .u64 0],.bool true]) ?_ rfl ⟨rfl,zb1⟩
 simp [results,Tryz.results112,go_sem,c_w2_0_0,c_w2_0_1,c_w2_0_2,c_w2_0_3,c_w2_0_4]
structure RWS (s:Bool) (p:Int) (M V:Nat) (z:Bool) (a0 a1 a2 a3:Nat):Prop where
 c:∀ (v:Value) (w:World),IsD w v M→Calls Tryz.prog 128 #[v,.int .i64 p] w fun e w'=>∃ v',e=.returned v'∧IsD w' v' V∧Below w.heap.size w w'
 d:∀ (v:Value) (w:World),IsD w v V→Calls Tryz.prog 127 #[.bool s,v] w fun e w'=>e=.returned (.tuple #[.agg #[.bool z,.int .u64 a0,.int .u64 a1,.int .u64 a2,.int .u64 a3],.bool true])∧Below w.heap.size w w'
theorem RWhole_yes (b:Nat) (s z:Bool) (p:Int) (M V l a0 a1 a2 a3:Nat) (w:World) (hp1 : -1074≤p) (hp2:p≤972) (hl:l≤53) (hl0:0 < l) (hlp:(l:Int)+p≤256) (C:Hid (RWC b s p M 0 l)) (D:Hid (RWS s p M V z a0 a1 a2 a3)) :
  Calls Tryz.prog 112 #[.int .u64 b] w fun e w'=>e=.returned (.tuple #[.agg #[.bool z,.int .u64 a0,.int .u64 a1,.int .u64 a2,.int .u64 a3],.bool true])∧Below w.heap.size w w':=by
 go_enter Tryz.func112,Tryz.ntmps112
 repeat any_goals (first|(go_at_call 113;with_reducible refine (C.out.c _).mono ?_;rintro e w1 ⟨v1,rfl,hv1,hb1⟩;have hl_w1_0:w.heap.size < w1.heap.size:=z0u;have c_w1_0_0:=(hb1).cell (p:=⟨w.heap.size,0,none⟩) z0b;simp [go_sem] at c_w1_0_0;have f_w1_0_0:=(hb1).frozen (p:=⟨w.heap.size,0,none⟩) z0b;simp [go_sem] at f_w1_0_0;have c_w1_0_1:=(hb1).cell (p:=⟨w.heap.size,1,none⟩) z0b;simp [go_sem] at c_w1_0_1;have f_w1_0_1:=(hb1).frozen (p:=⟨w.heap.size,1,none⟩) z0b;simp [go_sem] at f_w1_0_1;have c_w1_0_2:=(hb1).cell (p:=⟨w.heap.size,2,none⟩) z0b;simp [go_sem] at c_w1_0_2;have f_w1_0_2:=(hb1).frozen (p:=⟨w.heap.size,2,none⟩) z0b;simp [go_sem] at f_w1_0_2;have c_w1_0_3:=(hb1).cell (p:=⟨w.heap.size,3,none⟩) z0b;simp [go_sem] at c_w1_0_3;have f_w1_0_3:=(hb1).frozen (p:=⟨w.heap.size,3,none⟩) z0b;simp [go_sem] at f_w1_0_3;have c_w1_0_4:=(hb1).cell (p:=⟨w.heap.size,4,none⟩) z0b;simp [go_sem] at c_w1_0_4;have f_w1_0_4:=(hb1).frozen (p:=⟨w.heap.size,4,none⟩) z0b;simp [go_sem] at f_w1_0_4)|(go_at_call 114;with_reducible refine (C.out.d _).mono ?_;rintro e w2 ⟨rfl,hb2⟩;have hl_w2_0:w.heap.size < w2.heap.size:=(by have h_:=(hb2).size;(try simp at h_);omega);have c_w2_0_0:=(hb2).cell (p:=⟨w.heap.size,0,none⟩) z0b;simp [go_sem,c_w1_0_0] at c_w2_0_0;have f_w2_0_0:=(hb2).frozen (p:=⟨w.heap.size,0,none⟩) z0b;simp [go_sem,f_w1_0_0] at f_w2_0_0;have c_w2_0_1:=(hb2).cell (p:=⟨w.heap.size,1,none⟩) z0b;simp [go_sem,c_w1_0_1] at c_w2_0_1;have f_w2_0_1:=(hb2).frozen (p:=⟨w.heap.size,1,none⟩) z0b;simp [go_sem,f_w1_0_1] at f_w2_0_1;have c_w2_0_2:=(hb2).cell (p:=⟨w.heap.size,2,none⟩) z0b;simp [go_sem,c_w1_0_2] at c_w2_0_2;have f_w2_0_2:=(hb2).frozen (p:=⟨w.heap.size,2,none⟩) z0b;simp [go_sem,f_w1_0_2] at f_w2_0_2;have c_w2_0_3:=(hb2).cell (p:=⟨w.heap.size,3,none⟩) z0b;simp [go_sem,c_w1_0_3] at c_w2_0_3;have f_w2_0_3:=(hb2).frozen (p:=⟨w.heap.size,3,none⟩) z0b;simp [go_sem,f_w1_0_3] at f_w2_0_3;have c_w2_0_4:=(hb2).cell (p:=⟨w.heap.size,4,none⟩) z0b;simp [go_sem,c_w1_0_4] at c_w2_0_4;have f_w2_0_4:=(hb2).frozen (p:=⟨w.heap.size,4,none⟩) z0b;simp [go_sem,f_w1_0_4] at f_w2_0_4)|(go_at_call 110;refine (C.out.e _ _ (Below.isD hb2 hv1)).mono ?_;rintro e w' ⟨rfl,rfl⟩)|(go_at_call 128;with_reducible refine (D.out.c _ _ (Below.isD hb2 hv1)).mono ?_;rintro e w3 ⟨v3,rfl,hv3,hb3⟩;have hl_w3_0:w.heap.size < w3.heap.size:=(by have h_:=(hb3).size;(try simp at h_);omega);have c_w3_0_0:=(hb3).cell (p:=⟨w.heap.size,0,none⟩) z0b;simp [go_sem,c_w2_0_0] at c_w3_0_0;have f_w3_0_0:=(hb3).frozen (p:=⟨w.heap.size,0,none⟩) z0b;simp [go_sem,f_w2_0_0] at f_w3_0_0;have c_w3_0_1:=(hb3).cell (p:=⟨w.heap.size,1,none⟩) z0b;simp [go_sem,c_w2_0_1] at c_w3_0_1;have f_w3_0_1:=(hb3).frozen (p:=⟨w.heap.size,1,none⟩) z0b;simp [go_sem,f_w2_0_1] at f_w3_0_1;have c_w3_0_2:=(hb3).cell (p:=⟨w.heap.size,2,none⟩) z0b;simp [go_sem,c_w2_0_2] at c_w3_0_2;have f_w3_0_2:=(hb3).frozen (p:=⟨w.heap.size,2,none⟩) z0b;simp [go_sem,f_w2_0_2] at f_w3_0_2;have c_w3_0_3:=(hb3).cell (p:=⟨w.heap.size,3,none⟩) z0b;simp [go_sem,c_w2_0_3] at c_w3_0_3;have f_w3_0_3:=(hb3).frozen (p:=⟨w.heap.size,3,none⟩) z0b;simp [go_sem,f_w2_0_3] at f_w3_0_3;have c_w3_0_4:=(hb3).cell (p:=⟨w.heap.size,4,none⟩) z0b;simp [go_sem,c_w2_0_4] at c_w3_0_4;have f_w3_0_4:=(hb3).frozen (p:=⟨w.heap.size,4,none⟩) z0b;simp [go_sem,f_w2_0_4] at f_w3_0_4)|(go_at_call 127;with_reducible refine (D.out.d _ _ hv3).mono ?_;rintro e w4 ⟨rfl,hb4⟩;have hl_w4_0:w.heap.size < w4.heap.size:=(by have h_:=(hb4).size;(try simp at h_);omega);have c_w4_0_0:=(hb4).cell (p:=⟨w.heap.size,0,none⟩) z0b;simp [go_sem,c_w3_0_0] at c_w4_0_0;have f_w4_0_0:=(hb4).frozen (p:=⟨w.heap.size,0,none⟩) z0b;simp [go_sem,f_w3_0_0] at f_w4_0_0;have c_w4_0_1:=(hb4).cell (p:=⟨w.heap.size,1,none⟩) z0b;simp [go_sem,c_w3_0_1] at c_w4_0_1;have f_w4_0_1:=(hb4).frozen (p:=⟨w.heap.size,1,none⟩) z0b;simp [go_sem,f_w3_0_1] at f_w4_0_1;have c_w4_0_2:=(hb4).cell (p:=⟨w.heap.size,2,none⟩) z0b;simp [go_sem,c_w3_0_2] at c_w4_0_2;have f_w4_0_2:=(hb4).frozen (p:=⟨w.heap.size,2,none⟩) z0b;simp [go_sem,f_w3_0_2] at f_w4_0_2;have c_w4_0_3:=(hb4).cell (p:=⟨w.heap.size,3,none⟩) z0b;simp [go_sem,c_w3_0_3] at c_w4_0_3;have f_w4_0_3:=(hb4).frozen (p:=⟨w.heap.size,3,none⟩) z0b;simp [go_sem,f_w3_0_3] at f_w4_0_3;have c_w4_0_4:=(hb4).cell (p:=⟨w.heap.size,4,none⟩) z0b;simp [go_sem,c_w3_0_4] at c_w4_0_4;have f_w4_0_4:=(hb4).frozen (p:=⟨w.heap.size,4,none⟩) z0b;simp [go_sem,f_w3_0_4] at f_w4_0_4)|go_skip|go_guarded|go_step|go_upon|(dsimp only []))
 refine bodyPost_ret (v:=.tuple #[.agg #[.bool z,.int .u64 a0,.int .u64 a1,.int .u64 a2,.int .u64 a3],.bool true]) ?_ rfl ⟨rfl,zb1⟩
 simp [results,Tryz.results112,go_sem,c_w4_0_0,c_w4_0_1,c_w4_0_2,c_w4_0_3,c_w4_0_4]
theorem shI_whole {b:Nat} (hf:fe b≠2047) (h0:mant b≠0) (hk:0≤pk b):shI (mant b) (plc b)=pm b * 2 ^ (pk b).toNat:=by
 obtain ⟨h1,h2,h3⟩:=mant_pm hf h0
 unfold shI
 by_cases c:0≤plc b
 ·rw [if_pos c]
  have e:(pk b).toNat=tz (mant b)+(plc b).toNat:=by omega
  rw [e,Nat.pow_add,← Nat.mul_assoc,← h2]
 ·rw [if_neg c]
  have e:tz (mant b)=(pk b).toNat+(-(plc b)).toNat:=by omega
  rw [h2,e,Nat.pow_add,← Nat.mul_assoc,Nat.mul_div_cancel _ (Nat.two_pow_pos _)]
theorem rw_len (M:Nat) (v:Value) (w:World) (h:IsD w v M):Calls Tryz.prog 110 #[v] w fun e w'=>e=.returned (.int .i64 (bl M:Nat))∧w=w':=DLen_any v _ M w h
theorem RWhole_any (b:Nat) (hb:b < 18446744073709551616) (w:World) :
  Calls Tryz.prog 112 #[.int .u64 b] w fun e w'=>e=.returned (.tuple #[.agg #[.bool (whN b ),.int .u64 (lm ( whV b) 0:Nat),.int .u64 (lm ( whV b) 1:Nat),.int .u64 (lm ( whV b) 2:Nat),.int .u64 (lm ( whV b) 3:Nat)],.bool (whk b)])∧Below w.heap.size w w':=by
 have C0:=rparts_any b hb
 have CB:=RBehind_any b hb
 have zero:∀ k:Bool,whk b=k→whV b=0→whN b=false→∀ w',(Calls Tryz.prog 112 #[.int .u64 b] w' fun e w''=>e=.returned (.tuple #[.agg #[.bool false,.int .u64 0,.int .u64 0,.int .u64 0,.int .u64 0],.bool k])∧Below w'.heap.size w' w'')→Calls Tryz.prog 112 #[.int .u64 b] w' fun e w''=>e=.returned (.tuple #[.agg #[.bool (whN b ),.int .u64 (lm ( whV b) 0:Nat),.int .u64 (lm ( whV b) 1:Nat),.int .u64 (lm ( whV b) 2:Nat),.int .u64 (lm ( whV b) 3:Nat)],.bool (whk b)])∧Below w'.heap.size w' w'':=by
  intro k h1 h2 h3 w' h
  rw [h1,h2,h3,lm_zero,lm_zero,lm_zero,lm_zero]
  exact h
 have no:whk b=false→whV b=0∧whN b=false:=by
  intro h
  constructor
  ·unfold whV;rw [if_neg (by rw [h];decide)]
  ·unfold whN;rw [h];rfl
 by_cases c:fe b=2047
 ·have hfin:fin b=false:=by unfold fin;rw [c];rfl
  have hk:whk b=false:=by unfold whk;rw [hfin];rfl
  rw [hfin] at C0
  exact zero false hk (no hk).1 (no hk).2 w (RWhole_no1 b _ _ _ w (Lib.hid ⟨C0⟩))
 ·have hfin:fin b=true:=by unfold fin;simpa using c
  rw [if_neg c,if_neg c,hfin] at C0
  have hp:=@plc_range b
  have C:=Lib.hid (RWC.mk C0 CB (rw_len (mant b)))
  by_cases d:mant b=0
  ·have hpm:pm b=0:=(pm_zero_iff b).2 (.inr d)
   have hbeh:beh b=0:=by unfold beh;rw [pk_zero hpm];rfl
   have hk:whk b=true:=by
    unfold whk
    rw [hfin,pk_zero hpm,hpm]
    rfl
   have hV:whV b=0:=by unfold whV;rw [if_pos hk,hpm,Nat.zero_mul]
   have hN:whN b=false:=by unfold whN;rw [hpm,show decide (0 < 0)=false from rfl,Bool.and_false]
   have hp2:plc b≤256:=by
    have:fe b=0:=by unfold mant at d;split at d <;> omega
    unfold plc
    rw [if_pos this]
    omega
   rw [hbeh,d,bl_zero] at C
   exact zero true hk hV hN w (RWhole_zero b _ _ 0 w hp.1 hp2 C)
  ·obtain ⟨m1,m2,m3⟩:=mant_pm c d
   have hbl:=mant_bl b
   by_cases hk0:0≤pk b
   ·have hbeh:beh b=0:=by unfold beh;omega
    rw [hbeh] at C
    have hblm:bl (mant b)=bl (pm b)+tz (mant b):=by
     have h:=bl_mul_two_pow m1 (tz (mant b))
     rw [← m2] at h
     exact h
    have hiff:pm b * 2 ^ (pk b).toNat < 2 ^ 256↔(bl (mant b):Int)+plc b≤256:=by
     rw [← bl_le_iff,bl_mul_two_pow m1]
     omega
    by_cases hbig:(bl (mant b):Int)+plc b≤256
    ·have hs:shlOk (pm b) (pk b)=true:=(shlOk_iff m1).2 ⟨hk0,hiff.2 hbig⟩
     have hk:whk b=true:=by unfold whk;rw [hfin,hs,decide_eq_true hk0];rfl
     have hV:whV b=pm b * 2 ^ (pk b).toNat:=by unfold whV;rw [if_pos hk]
     have hVlt:whV b < 2 ^ 256:=by rw [hV];exact hiff.2 hbig
     have hVs:shI (mant b) (plc b)=whV b:=by rw [shI_whole c d hk0,hV]
     have hV0:whV b≠0:=by
      rw [hV]
      have:=Nat.mul_pos m1 (Nat.two_pow_pos (pk b).toNat)
      omega
     have hN:whN b=(b / 9223372036854775808 == 1):=by unfold whN;rw [hk,decide_eq_true m1,Bool.true_and,Bool.and_true]
     have D:RWS (b / 9223372036854775808 == 1) (plc b) (mant b) (whV b) (b / 9223372036854775808 == 1) (lm (whV b) 0) (lm (whV b) 1) (lm (whV b) 2) (lm (whV b) 3):=by
      refine ⟨fun v w h=>?_,fun v w h=>?_⟩
      ·have hdl:dl (mant b)≤2:=(dl_le_iff _ _).2 (Nat.lt_trans (mant_lt b) z0e)
       have k:=Shift_any v _ (mant b) (plc b) w h z0c z0c z0c
       rw [hVs] at k
       exact k
      ·have k:=rwhole_any (b / 9223372036854775808 == 1) v _ (whV b) w h
       rw [decide_eq_true hVlt,if_pos hVlt,decide_eq_true hV0,Bool.and_true,Bool.true_and] at k
       exact k
     have hl0:=bl_pos (Nat.pos_of_ne_zero d)
     have k:=RWhole_yes b _ _ (plc b) (mant b) (whV b) (bl (mant b)) _ _ _ _ w hp.1 hp.2 hbl z0c hbig C (Lib.hid D)
     rw [hk,hN]
     exact k
    ·have hs:shlOk (pm b) (pk b)=false:=by
      cases h:shlOk (pm b) (pk b) with
      | false=>rfl
      | true=>exact absurd (hiff.1 ((shlOk_iff m1).1 h).2) hbig
     have hk:whk b=false:=by unfold whk;rw [hs,Bool.and_false]
     exact zero false hk (no hk).1 (no hk).2 w (RWhole_no3 b _ _ _ _ w hp.1 hp.2 hbl z0c C)
   ·have hk:whk b=false:=by unfold whk;rw [decide_eq_false hk0,Bool.and_false,Bool.false_and]
    have hr:0 < ((beh b:Nat):Int):=by unfold beh;omega
    exact zero false hk (no hk).1 (no hk).2 w (RWhole_no2 b _ _ _ _ _ w hr C)
theorem RClass_0 (b:Nat) (hb:b < 18446744073709551616) (w:World) (hk:whk b=true) :
  Calls Tryz.prog 97 #[.int .u64 b] w fun e w'=>e=.returned (.int .i64 0)∧Below w.heap.size w w':=by
 have hn2:=beh_le b
 exact z19zk1
theorem RClass_1 (b:Nat) (hb:b < 18446744073709551616) (w:World) (hk:whk b=false) (hf:fin b=true) (h1:1≤((beh b:Nat):Int)) (h2:((beh b:Nat):Int)≤64) :
  Calls Tryz.prog 97 #[.int .u64 b] w fun e w'=>e=.returned (.int .i64 1)∧Below w.heap.size w w':=by
 have hn2:=beh_le b
 exact z19zk1
theorem RClass_2a (b:Nat) (hb:b < 18446744073709551616) (w:World) (hk:whk b=false) (hf:fin b=true) (h1:((beh b:Nat):Int) < 1) :
  Calls Tryz.prog 97 #[.int .u64 b] w fun e w'=>e=.returned (.int .i64 2)∧Below w.heap.size w w':=by
 have hn2:=beh_le b
 exact z19zk1
theorem RClass_2b (b:Nat) (hb:b < 18446744073709551616) (w:World) (hk:whk b=false) (hf:fin b=true) (h2:64 < ((beh b:Nat):Int)) :
  Calls Tryz.prog 97 #[.int .u64 b] w fun e w'=>e=.returned (.int .i64 2)∧Below w.heap.size w w':=by
 have hn2:=beh_le b
 have h1:1≤((beh b:Nat):Int):=by omega
 exact z19zk1
theorem RClass_4 (b:Nat) (hb:b < 18446744073709551616) (w:World) (hk:whk b=false) (hf:fin b=false) (h1:(((b:Nat):Int) == 9218868437227405312)=true) :
  Calls Tryz.prog 97 #[.int .u64 b] w fun e w'=>e=.returned (.int .i64 4)∧Below w.heap.size w w':=by
 have hn2:=beh_le b
 exact z19zk1
theorem RClass_8 (b:Nat) (hb:b < 18446744073709551616) (w:World) (hk:whk b=false) (hf:fin b=false) (h1:(((b:Nat):Int) == 9218868437227405312)=false) (h2:(((b:Nat):Int) == 18442240474082181120)=true) :
  Calls Tryz.prog 97 #[.int .u64 b] w fun e w'=>e=.returned (.int .i64 8)∧Below w.heap.size w w':=by
 have hn2:=beh_le b
 exact z19zk1
theorem RClass_16 (b:Nat) (hb:b < 18446744073709551616) (w:World) (hk:whk b=false) (hf:fin b=false) (h1:(((b:Nat):Int) == 9218868437227405312)=false) (h2:(((b:Nat):Int) == 18442240474082181120)=false) :
  Calls Tryz.prog 97 #[.int .u64 b] w fun e w'=>e=.returned (.int .i64 16)∧Below w.heap.size w w':=by
 have hn2:=beh_le b
 exact z19zk1
theorem RClass_any (b:Nat) (hb:b < 18446744073709551616) (w:World) :
  Calls Tryz.prog 97 #[.int .u64 b] w fun e w'=>e=.returned (.int .i64 (cls b))∧Below w.heap.size w w':=by
 cases hk:whk b with
 | true=>rw [cls_0 hk];exact RClass_0 b hb w hk
 | false=>
  cases hf:fin b with
  | true=>
   by_cases h1:1≤beh b
   ·by_cases h2:beh b≤64
    ·rw [cls_1 hk hf h1 h2];exact RClass_1 b hb w hk hf z0c z0c
    ·rw [cls_2 hk hf z0c];exact RClass_2b b hb w hk hf z0c
   ·rw [cls_2 hk hf z0c];exact RClass_2a b hb w hk hf z0c
  | false=>
   by_cases h1:b=9218868437227405312
   ·rw [cls_4 hk hf h1];exact RClass_4 b hb w hk hf z0a1
   ·by_cases h2:b=18442240474082181120
    ·rw [cls_8 hk hf h2];exact RClass_8 b hb w hk hf z0a1 z0a1
    ·rw [cls_16 hk hf h1 h2];exact RClass_16 b hb w hk hf z0a1 z0a1
/-- **May.** -/
theorem RMay_any (b:Nat) (hb:b < 18446744073709551616) (w:World) :
  Calls Tryz.prog 86 #[.int .u64 b] w fun e w'=>e=.returned (.bool (mayF b))∧Below w.heap.size w w':=by
 have HM:=Lib.hid (show mayF b=(cls b != 0 && (cls b != 16 || ((b:Nat):Int) == 9221120237041090560)) by
  unfold mayF;congr 2;simp only [Bool.beq_eq_decide_eq,decide_eq_decide];omega)
 by_cases h0:(cls b != 0)=true
 ·by_cases h1:(cls b != 16)=true
  ·go_enter Tryz.func86,Tryz.ntmps86
   repeat any_goals (first|(go_at_call 97;refine (RClass_any b hb _).mono ?_;rintro e w1 ⟨rfl,hb1⟩)|go_skip|go_guarded|go_step|go_upon|(dsimp only []))
   go_ret
   exact ⟨by simp [HM.out,h0,h1],zb2⟩
  ·have h1':(cls b != 16)=false:=by simpa using h1
   clear h1
   go_enter Tryz.func86,Tryz.ntmps86
   repeat any_goals (first|(go_at_call 97;refine (RClass_any b hb _).mono ?_;rintro e w1 ⟨rfl,hb1⟩)|go_skip|go_guarded|go_step|go_upon|(dsimp only []))
   go_ret
   exact ⟨by simp [HM.out,h0,h1'],zb2⟩
 ·have h0':(cls b != 0)=false:=by simpa using h0
  clear h0
  go_enter Tryz.func86,Tryz.ntmps86
  repeat any_goals (first|(go_at_call 97;refine (RClass_any b hb _).mono ?_;rintro e w1 ⟨rfl,hb1⟩)|go_skip|go_guarded|go_step|go_upon|(dsimp only []))
  go_ret
  exact ⟨by simp [HM.out,h0'],zb2⟩
end Go.Proofs.YtfondldmmcmloaaGreatDoor
