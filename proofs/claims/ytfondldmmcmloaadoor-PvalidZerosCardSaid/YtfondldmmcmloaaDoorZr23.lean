/- The law PvalidZeros. -/
import Derived.Test.YtfondldmmcmloaaDoorZrA
import Derived.Test.YtfondldmmcmloaaDoorZrB
import Derived.Test.YtfondldmmcmloaaDoorZrC
namespace Go.Proofs.YtfondldmmcmloaaDoor
open Go Go.RowKit
theorem zr_read00:loadR ⟨#[115,121,110,116,97,120,32,61,32,34,112,114,111,116,111,51,34,59,32,109,101,115,115,97,103,101,32,77,32,123,32,105,110,116,51,50,32,120,32,61,32,49,59,32,125]⟩=some (zrL 0 ⟨#[105,110,116,51,50]⟩):=by kernel_rfl
theorem zr_read01:loadR ⟨#[115,121,110,116,97,120,32,61,32,34,112,114,111,116,111,51,34,59,32,109,101,115,115,97,103,101,32,77,32,123,32,111,112,116,105,111,110,97,108,32,105,110,116,51,50,32,120,32,61,32,49,59,32,125]⟩=some (zrL 1 ⟨#[105,110,116,51,50]⟩):=by kernel_rfl
theorem zr_read02:loadR ⟨#[115,121,110,116,97,120,32,61,32,34,112,114,111,116,111,51,34,59,32,109,101,115,115,97,103,101,32,77,32,123,32,114,101,112,101,97,116,101,100,32,105,110,116,51,50,32,120,32,61,32,49,59,32,125]⟩=some (zrL 2 ⟨#[105,110,116,51,50]⟩):=by kernel_rfl
theorem zr_read03:loadR ⟨#[115,121,110,116,97,120,32,61,32,34,112,114,111,116,111,51,34,59,32,109,101,115,115,97,103,101,32,77,32,123,32,109,97,112,60,115,116,114,105,110,103,44,32,105,110,116,51,50,62,32,120,32,61,32,49,59,32,125]⟩=some (zrL 3 ⟨#[105,110,116,51,50]⟩):=by kernel_rfl
theorem zr_check0 (h:Nat) (hl:h < 4) (A:Nat→Ad6):checkB (pmsOf (zrL h ⟨#[105,110,116,51,50]⟩) A) 1=true:=by
  rcases (show h=0∨h=1∨h=2∨h=3 by omega) with rfl|rfl|rfl|rfl <;> kernel_rfl
theorem zr_v00 (h:Nat) (X:VT) (hX:XF h (flatV 3 false 5 0 ⟨#[]⟩) X):ZrV h ⟨#[105,110,116,51,50]⟩ ((fun _=>false) h) X:=by
  rcases hX with ⟨rfl|rfl,rfl⟩|⟨rfl,g,rfl⟩|⟨rfl,g,k,rfl⟩
  · exact ⟨fun _ _ _=>by kernel_rfl,fun ho=>absurd ho (by decide),fun _ _ _ _=>by unfold Sim;kernel_rfl,fun _ _=>of_decide_eq_true (by kernel_rfl)⟩
  · exact ⟨fun _ _ _=>by kernel_rfl,fun ho=>absurd ho (by decide),fun _ _ _ _=>by unfold Sim;kernel_rfl,fun _ _=>of_decide_eq_true (by kernel_rfl)⟩
  · exact ⟨fun _ _ _=>by kernel_rfl,fun ho=>absurd ho (by decide),fun _ _ _ _=>by unfold Sim;kernel_rfl,fun _ _=>of_decide_eq_true (by kernel_rfl)⟩
  · exact ⟨fun _ _ _=>by kernel_rfl,fun ho=>absurd ho (by decide),fun _ _ _ _=>by unfold Sim;kernel_rfl,fun _ _=>of_decide_eq_true (by kernel_rfl)⟩
theorem zr_v01 (h:Nat) (X:VT) (hX:XF h (flatV 3 false 0 0 ⟨#[]⟩) X):ZrV h ⟨#[105,110,116,51,50]⟩ ((fun h=>decide (h=0)) h) X:=by
  rcases hX with ⟨rfl|rfl,rfl⟩|⟨rfl,g,rfl⟩|⟨rfl,g,k,rfl⟩
  · exact ⟨fun _ _ _=>by kernel_rfl,fun _ _=>by kernel_rfl,fun ho=>absurd ho (by decide),fun _ _=>of_decide_eq_true (by kernel_rfl)⟩
  · exact ⟨fun _ _ _=>by kernel_rfl,fun ho=>absurd ho (by decide),fun _ _ _ _=>by unfold Sim;kernel_rfl,fun _ _=>of_decide_eq_true (by kernel_rfl)⟩
  · exact ⟨fun _ _ _=>by kernel_rfl,fun ho=>absurd ho (by decide),fun _ _ _ _=>by unfold Sim;kernel_rfl,fun _ _=>of_decide_eq_true (by kernel_rfl)⟩
  · exact ⟨fun _ _ _=>by kernel_rfl,fun ho=>absurd ho (by decide),fun _ _ _ _=>by unfold Sim;kernel_rfl,fun _ _=>of_decide_eq_true (by kernel_rfl)⟩
theorem zr_read10:loadR ⟨#[115,121,110,116,97,120,32,61,32,34,112,114,111,116,111,51,34,59,32,109,101,115,115,97,103,101,32,77,32,123,32,98,111,111,108,32,120,32,61,32,49,59,32,125]⟩=some (zrL 0 ⟨#[98,111,111,108]⟩):=by kernel_rfl
theorem zr_read11:loadR ⟨#[115,121,110,116,97,120,32,61,32,34,112,114,111,116,111,51,34,59,32,109,101,115,115,97,103,101,32,77,32,123,32,111,112,116,105,111,110,97,108,32,98,111,111,108,32,120,32,61,32,49,59,32,125]⟩=some (zrL 1 ⟨#[98,111,111,108]⟩):=by kernel_rfl
theorem zr_read12:loadR ⟨#[115,121,110,116,97,120,32,61,32,34,112,114,111,116,111,51,34,59,32,109,101,115,115,97,103,101,32,77,32,123,32,114,101,112,101,97,116,101,100,32,98,111,111,108,32,120,32,61,32,49,59,32,125]⟩=some (zrL 2 ⟨#[98,111,111,108]⟩):=by kernel_rfl
theorem zr_read13:loadR ⟨#[115,121,110,116,97,120,32,61,32,34,112,114,111,116,111,51,34,59,32,109,101,115,115,97,103,101,32,77,32,123,32,109,97,112,60,115,116,114,105,110,103,44,32,98,111,111,108,62,32,120,32,61,32,49,59,32,125]⟩=some (zrL 3 ⟨#[98,111,111,108]⟩):=by kernel_rfl
theorem zr_check1 (h:Nat) (hl:h < 4) (A:Nat→Ad6):checkB (pmsOf (zrL h ⟨#[98,111,111,108]⟩) A) 1=true:=by
  rcases (show h=0∨h=1∨h=2∨h=3 by omega) with rfl|rfl|rfl|rfl <;> kernel_rfl
theorem zr_v10 (h:Nat) (X:VT) (hX:XF h (flatV 2 false 0 1 ⟨#[]⟩) X):ZrV h ⟨#[98,111,111,108]⟩ ((fun _=>false) h) X:=by
  rcases hX with ⟨rfl|rfl,rfl⟩|⟨rfl,g,rfl⟩|⟨rfl,g,k,rfl⟩
  · exact ⟨fun _ _ _=>by kernel_rfl,fun ho=>absurd ho (by decide),fun _ _ _ _=>by unfold Sim;kernel_rfl,fun _ _=>of_decide_eq_true (by kernel_rfl)⟩
  · exact ⟨fun _ _ _=>by kernel_rfl,fun ho=>absurd ho (by decide),fun _ _ _ _=>by unfold Sim;kernel_rfl,fun _ _=>of_decide_eq_true (by kernel_rfl)⟩
  · exact ⟨fun _ _ _=>by kernel_rfl,fun ho=>absurd ho (by decide),fun _ _ _ _=>by unfold Sim;kernel_rfl,fun _ _=>of_decide_eq_true (by kernel_rfl)⟩
  · exact ⟨fun _ _ _=>by kernel_rfl,fun ho=>absurd ho (by decide),fun _ _ _ _=>by unfold Sim;kernel_rfl,fun _ _=>of_decide_eq_true (by kernel_rfl)⟩
theorem zr_v11 (h:Nat) (X:VT) (hX:XF h (flatV 2 false 0 0 ⟨#[]⟩) X):ZrV h ⟨#[98,111,111,108]⟩ ((fun h=>decide (h=0)) h) X:=by
  rcases hX with ⟨rfl|rfl,rfl⟩|⟨rfl,g,rfl⟩|⟨rfl,g,k,rfl⟩
  · exact ⟨fun _ _ _=>by kernel_rfl,fun _ _=>by kernel_rfl,fun ho=>absurd ho (by decide),fun _ _=>of_decide_eq_true (by kernel_rfl)⟩
  · exact ⟨fun _ _ _=>by kernel_rfl,fun ho=>absurd ho (by decide),fun _ _ _ _=>by unfold Sim;kernel_rfl,fun _ _=>of_decide_eq_true (by kernel_rfl)⟩
  · exact ⟨fun _ _ _=>by kernel_rfl,fun ho=>absurd ho (by decide),fun _ _ _ _=>by unfold Sim;kernel_rfl,fun _ _=>of_decide_eq_true (by kernel_rfl)⟩
  · exact ⟨fun _ _ _=>by kernel_rfl,fun ho=>absurd ho (by decide),fun _ _ _ _=>by unfold Sim;kernel_rfl,fun _ _=>of_decide_eq_true (by kernel_rfl)⟩
theorem zr_read20:loadR ⟨#[115,121,110,116,97,120,32,61,32,34,112,114,111,116,111,51,34,59,32,109,101,115,115,97,103,101,32,77,32,123,32,115,116,114,105,110,103,32,120,32,61,32,49,59,32,125]⟩=some (zrL 0 ⟨#[115,116,114,105,110,103]⟩):=by kernel_rfl
theorem zr_read21:loadR ⟨#[115,121,110,116,97,120,32,61,32,34,112,114,111,116,111,51,34,59,32,109,101,115,115,97,103,101,32,77,32,123,32,111,112,116,105,111,110,97,108,32,115,116,114,105,110,103,32,120,32,61,32,49,59,32,125]⟩=some (zrL 1 ⟨#[115,116,114,105,110,103]⟩):=by kernel_rfl
theorem zr_read22:loadR ⟨#[115,121,110,116,97,120,32,61,32,34,112,114,111,116,111,51,34,59,32,109,101,115,115,97,103,101,32,77,32,123,32,114,101,112,101,97,116,101,100,32,115,116,114,105,110,103,32,120,32,61,32,49,59,32,125]⟩=some (zrL 2 ⟨#[115,116,114,105,110,103]⟩):=by kernel_rfl
theorem zr_read23:loadR ⟨#[115,121,110,116,97,120,32,61,32,34,112,114,111,116,111,51,34,59,32,109,101,115,115,97,103,101,32,77,32,123,32,109,97,112,60,115,116,114,105,110,103,44,32,115,116,114,105,110,103,62,32,120,32,61,32,49,59,32,125]⟩=some (zrL 3 ⟨#[115,116,114,105,110,103]⟩):=by kernel_rfl
theorem zr_check2 (h:Nat) (hl:h < 4) (A:Nat→Ad6):checkB (pmsOf (zrL h ⟨#[115,116,114,105,110,103]⟩) A) 1=true:=by
  rcases (show h=0∨h=1∨h=2∨h=3 by omega) with rfl|rfl|rfl|rfl <;> kernel_rfl
theorem zr_v20 (h:Nat) (X:VT) (hX:XF h (flatV 5 false 0 0 ⟨#[120]⟩) X):ZrV h ⟨#[115,116,114,105,110,103]⟩ ((fun _=>false) h) X:=by
  rcases hX with ⟨rfl|rfl,rfl⟩|⟨rfl,g,rfl⟩|⟨rfl,g,k,rfl⟩
  · exact ⟨fun _ _ _=>by kernel_rfl,fun ho=>absurd ho (by decide),fun _ _ _ _=>by unfold Sim;kernel_rfl,fun _ _=>of_decide_eq_true (by kernel_rfl)⟩
  · exact ⟨fun _ _ _=>by kernel_rfl,fun ho=>absurd ho (by decide),fun _ _ _ _=>by unfold Sim;kernel_rfl,fun _ _=>of_decide_eq_true (by kernel_rfl)⟩
  · exact ⟨fun _ _ _=>by kernel_rfl,fun ho=>absurd ho (by decide),fun _ _ _ _=>by unfold Sim;kernel_rfl,fun _ _=>of_decide_eq_true (by kernel_rfl)⟩
  · exact ⟨fun _ _ _=>by kernel_rfl,fun ho=>absurd ho (by decide),fun _ _ _ _=>by unfold Sim;kernel_rfl,fun _ _=>of_decide_eq_true (by kernel_rfl)⟩
theorem zr_v21 (h:Nat) (X:VT) (hX:XF h (flatV 5 false 0 0 ⟨#[]⟩) X):ZrV h ⟨#[115,116,114,105,110,103]⟩ ((fun h=>decide (h=0)) h) X:=by
  rcases hX with ⟨rfl|rfl,rfl⟩|⟨rfl,g,rfl⟩|⟨rfl,g,k,rfl⟩
  · exact ⟨fun _ _ _=>by kernel_rfl,fun _ _=>by kernel_rfl,fun ho=>absurd ho (by decide),fun _ _=>of_decide_eq_true (by kernel_rfl)⟩
  · exact ⟨fun _ _ _=>by kernel_rfl,fun ho=>absurd ho (by decide),fun _ _ _ _=>by unfold Sim;kernel_rfl,fun _ _=>of_decide_eq_true (by kernel_rfl)⟩
  · exact ⟨fun _ _ _=>by kernel_rfl,fun ho=>absurd ho (by decide),fun _ _ _ _=>by unfold Sim;kernel_rfl,fun _ _=>of_decide_eq_true (by kernel_rfl)⟩
  · exact ⟨fun _ _ _=>by kernel_rfl,fun ho=>absurd ho (by decide),fun _ _ _ _=>by unfold Sim;kernel_rfl,fun _ _=>of_decide_eq_true (by kernel_rfl)⟩
theorem zr_read30:loadR ⟨#[115,121,110,116,97,120,32,61,32,34,112,114,111,116,111,51,34,59,32,109,101,115,115,97,103,101,32,77,32,123,32,98,121,116,101,115,32,120,32,61,32,49,59,32,125]⟩=some (zrL 0 ⟨#[98,121,116,101,115]⟩):=by kernel_rfl
theorem zr_read31:loadR ⟨#[115,121,110,116,97,120,32,61,32,34,112,114,111,116,111,51,34,59,32,109,101,115,115,97,103,101,32,77,32,123,32,111,112,116,105,111,110,97,108,32,98,121,116,101,115,32,120,32,61,32,49,59,32,125]⟩=some (zrL 1 ⟨#[98,121,116,101,115]⟩):=by kernel_rfl
theorem zr_read32:loadR ⟨#[115,121,110,116,97,120,32,61,32,34,112,114,111,116,111,51,34,59,32,109,101,115,115,97,103,101,32,77,32,123,32,114,101,112,101,97,116,101,100,32,98,121,116,101,115,32,120,32,61,32,49,59,32,125]⟩=some (zrL 2 ⟨#[98,121,116,101,115]⟩):=by kernel_rfl
theorem zr_read33:loadR ⟨#[115,121,110,116,97,120,32,61,32,34,112,114,111,116,111,51,34,59,32,109,101,115,115,97,103,101,32,77,32,123,32,109,97,112,60,115,116,114,105,110,103,44,32,98,121,116,101,115,62,32,120,32,61,32,49,59,32,125]⟩=some (zrL 3 ⟨#[98,121,116,101,115]⟩):=by kernel_rfl
theorem zr_check3 (h:Nat) (hl:h < 4) (A:Nat→Ad6):checkB (pmsOf (zrL h ⟨#[98,121,116,101,115]⟩) A) 1=true:=by
  rcases (show h=0∨h=1∨h=2∨h=3 by omega) with rfl|rfl|rfl|rfl <;> kernel_rfl
theorem zr_v30 (h:Nat) (X:VT) (hX:XF h (flatV 6 false 0 0 ⟨#[255]⟩) X):ZrV h ⟨#[98,121,116,101,115]⟩ ((fun _=>false) h) X:=by
  rcases hX with ⟨rfl|rfl,rfl⟩|⟨rfl,g,rfl⟩|⟨rfl,g,k,rfl⟩
  · exact ⟨fun _ _ _=>by kernel_rfl,fun ho=>absurd ho (by decide),fun _ _ _ _=>by unfold Sim;kernel_rfl,fun _ _=>of_decide_eq_true (by kernel_rfl)⟩
  · exact ⟨fun _ _ _=>by kernel_rfl,fun ho=>absurd ho (by decide),fun _ _ _ _=>by unfold Sim;kernel_rfl,fun _ _=>of_decide_eq_true (by kernel_rfl)⟩
  · exact ⟨fun _ _ _=>by kernel_rfl,fun ho=>absurd ho (by decide),fun _ _ _ _=>by unfold Sim;kernel_rfl,fun _ _=>of_decide_eq_true (by kernel_rfl)⟩
  · exact ⟨fun _ _ _=>by kernel_rfl,fun ho=>absurd ho (by decide),fun _ _ _ _=>by unfold Sim;kernel_rfl,fun _ _=>of_decide_eq_true (by kernel_rfl)⟩
theorem zr_v31 (h:Nat) (X:VT) (hX:XF h (flatV 6 false 0 0 ⟨#[]⟩) X):ZrV h ⟨#[98,121,116,101,115]⟩ ((fun h=>decide (h=0)) h) X:=by
  rcases hX with ⟨rfl|rfl,rfl⟩|⟨rfl,g,rfl⟩|⟨rfl,g,k,rfl⟩
  · exact ⟨fun _ _ _=>by kernel_rfl,fun _ _=>by kernel_rfl,fun ho=>absurd ho (by decide),fun _ _=>of_decide_eq_true (by kernel_rfl)⟩
  · exact ⟨fun _ _ _=>by kernel_rfl,fun ho=>absurd ho (by decide),fun _ _ _ _=>by unfold Sim;kernel_rfl,fun _ _=>of_decide_eq_true (by kernel_rfl)⟩
  · exact ⟨fun _ _ _=>by kernel_rfl,fun ho=>absurd ho (by decide),fun _ _ _ _=>by unfold Sim;kernel_rfl,fun _ _=>of_decide_eq_true (by kernel_rfl)⟩
  · exact ⟨fun _ _ _=>by kernel_rfl,fun ho=>absurd ho (by decide),fun _ _ _ _=>by unfold Sim;kernel_rfl,fun _ _=>of_decide_eq_true (by kernel_rfl)⟩
theorem zr_read40:loadR ⟨#[115,121,110,116,97,120,32,61,32,34,112,114,111,116,111,51,34,59,32,109,101,115,115,97,103,101,32,77,32,123,32,100,111,117,98,108,101,32,120,32,61,32,49,59,32,125]⟩=some (zrL 0 ⟨#[100,111,117,98,108,101]⟩):=by kernel_rfl
theorem zr_read41:loadR ⟨#[115,121,110,116,97,120,32,61,32,34,112,114,111,116,111,51,34,59,32,109,101,115,115,97,103,101,32,77,32,123,32,111,112,116,105,111,110,97,108,32,100,111,117,98,108,101,32,120,32,61,32,49,59,32,125]⟩=some (zrL 1 ⟨#[100,111,117,98,108,101]⟩):=by kernel_rfl
theorem zr_read42:loadR ⟨#[115,121,110,116,97,120,32,61,32,34,112,114,111,116,111,51,34,59,32,109,101,115,115,97,103,101,32,77,32,123,32,114,101,112,101,97,116,101,100,32,100,111,117,98,108,101,32,120,32,61,32,49,59,32,125]⟩=some (zrL 2 ⟨#[100,111,117,98,108,101]⟩):=by kernel_rfl
theorem zr_read43:loadR ⟨#[115,121,110,116,97,120,32,61,32,34,112,114,111,116,111,51,34,59,32,109,101,115,115,97,103,101,32,77,32,123,32,109,97,112,60,115,116,114,105,110,103,44,32,100,111,117,98,108,101,62,32,120,32,61,32,49,59,32,125]⟩=some (zrL 3 ⟨#[100,111,117,98,108,101]⟩):=by kernel_rfl
theorem zr_check4 (h:Nat) (hl:h < 4) (A:Nat→Ad6):checkB (pmsOf (zrL h ⟨#[100,111,117,98,108,101]⟩) A) 1=true:=by
  rcases (show h=0∨h=1∨h=2∨h=3 by omega) with rfl|rfl|rfl|rfl <;> kernel_rfl
theorem zr_v40 (h:Nat) (X:VT) (hX:XF h (flatV 4 false 0 4602678819172646912 ⟨#[]⟩) X):ZrV h ⟨#[100,111,117,98,108,101]⟩ ((fun _=>false) h) X:=by
  rcases hX with ⟨rfl|rfl,rfl⟩|⟨rfl,g,rfl⟩|⟨rfl,g,k,rfl⟩
  · exact ⟨fun _ _ _=>by kernel_rfl,fun ho=>absurd ho (by decide),fun _ _ _ _=>by unfold Sim;kernel_rfl,fun _ _=>of_decide_eq_true (by kernel_rfl)⟩
  · exact ⟨fun _ _ _=>by kernel_rfl,fun ho=>absurd ho (by decide),fun _ _ _ _=>by unfold Sim;kernel_rfl,fun _ _=>of_decide_eq_true (by kernel_rfl)⟩
  · exact ⟨fun _ _ _=>by kernel_rfl,fun ho=>absurd ho (by decide),fun _ _ _ _=>by unfold Sim;kernel_rfl,fun _ _=>of_decide_eq_true (by kernel_rfl)⟩
  · exact ⟨fun _ _ _=>by kernel_rfl,fun ho=>absurd ho (by decide),fun _ _ _ _=>by unfold Sim;kernel_rfl,fun _ _=>of_decide_eq_true (by kernel_rfl)⟩
theorem zr_v41 (h:Nat) (X:VT) (hX:XF h (flatV 3 false 0 0 ⟨#[]⟩) X):ZrV h ⟨#[100,111,117,98,108,101]⟩ ((fun h=>decide (h=0)) h) X:=by
  rcases hX with ⟨rfl|rfl,rfl⟩|⟨rfl,g,rfl⟩|⟨rfl,g,k,rfl⟩
  · exact ⟨fun _ _ _=>by kernel_rfl,fun _ _=>by kernel_rfl,fun ho=>absurd ho (by decide),fun _ _=>of_decide_eq_true (by kernel_rfl)⟩
  · exact ⟨fun _ _ _=>by kernel_rfl,fun ho=>absurd ho (by decide),fun _ _ _ _=>by unfold Sim;kernel_rfl,fun _ _=>of_decide_eq_true (by kernel_rfl)⟩
  · exact ⟨fun _ _ _=>by kernel_rfl,fun ho=>absurd ho (by decide),fun _ _ _ _=>by unfold Sim;kernel_rfl,fun _ _=>of_decide_eq_true (by kernel_rfl)⟩
  · exact ⟨fun _ _ _=>by kernel_rfl,fun ho=>absurd ho (by decide),fun _ _ _ _=>by unfold Sim;kernel_rfl,fun _ _=>of_decide_eq_true (by kernel_rfl)⟩
theorem zr_read50:loadR ⟨#[115,121,110,116,97,120,32,61,32,34,112,114,111,116,111,51,34,59,32,109,101,115,115,97,103,101,32,77,32,123,32,77,32,120,32,61,32,49,59,32,125]⟩=some (zrL 0 ⟨#[77]⟩):=by kernel_rfl
theorem zr_read51:loadR ⟨#[115,121,110,116,97,120,32,61,32,34,112,114,111,116,111,51,34,59,32,109,101,115,115,97,103,101,32,77,32,123,32,111,112,116,105,111,110,97,108,32,77,32,120,32,61,32,49,59,32,125]⟩=some (zrL 1 ⟨#[77]⟩):=by kernel_rfl
theorem zr_read52:loadR ⟨#[115,121,110,116,97,120,32,61,32,34,112,114,111,116,111,51,34,59,32,109,101,115,115,97,103,101,32,77,32,123,32,114,101,112,101,97,116,101,100,32,77,32,120,32,61,32,49,59,32,125]⟩=some (zrL 2 ⟨#[77]⟩):=by kernel_rfl
theorem zr_read53:loadR ⟨#[115,121,110,116,97,120,32,61,32,34,112,114,111,116,111,51,34,59,32,109,101,115,115,97,103,101,32,77,32,123,32,109,97,112,60,115,116,114,105,110,103,44,32,77,62,32,120,32,61,32,49,59,32,125]⟩=some (zrL 3 ⟨#[77]⟩):=by kernel_rfl
theorem zr_check5 (h:Nat) (hl:h < 4) (A:Nat→Ad6):checkB (pmsOf (zrL h ⟨#[77]⟩) A) 1=true:=by
  rcases (show h=0∨h=1∨h=2∨h=3 by omega) with rfl|rfl|rfl|rfl <;> kernel_rfl
theorem zr_v50 (h:Nat) (X:VT) (hX:XF h (flatV 8 false 0 0 ⟨#[]⟩) X):ZrV h ⟨#[77]⟩ ((fun _=>false) h) X:=by
  rcases hX with ⟨rfl|rfl,rfl⟩|⟨rfl,g,rfl⟩|⟨rfl,g,k,rfl⟩
  · exact ⟨fun _ _ _=>by kernel_rfl,fun ho=>absurd ho (by decide),fun _ _ _ _=>by unfold Sim;kernel_rfl,fun _ _=>of_decide_eq_true (by kernel_rfl)⟩
  · exact ⟨fun _ _ _=>by kernel_rfl,fun ho=>absurd ho (by decide),fun _ _ _ _=>by unfold Sim;kernel_rfl,fun _ _=>of_decide_eq_true (by kernel_rfl)⟩
  · exact ⟨fun _ _ _=>by kernel_rfl,fun ho=>absurd ho (by decide),fun _ _ _ _=>by unfold Sim;kernel_rfl,fun _ _=>of_decide_eq_true (by kernel_rfl)⟩
  · exact ⟨fun _ _ _=>by kernel_rfl,fun ho=>absurd ho (by decide),fun _ _ _ _=>by unfold Sim;kernel_rfl,fun _ _=>of_decide_eq_true (by kernel_rfl)⟩
theorem zr_v51 (h:Nat) (X:VT) (hX:XF h (flatV 8 false 0 0 ⟨#[]⟩) X):ZrV h ⟨#[77]⟩ ((fun _=>false) h) X:=by
  rcases hX with ⟨rfl|rfl,rfl⟩|⟨rfl,g,rfl⟩|⟨rfl,g,k,rfl⟩
  · exact ⟨fun _ _ _=>by kernel_rfl,fun ho=>absurd ho (by decide),fun _ _ _ _=>by unfold Sim;kernel_rfl,fun _ _=>of_decide_eq_true (by kernel_rfl)⟩
  · exact ⟨fun _ _ _=>by kernel_rfl,fun ho=>absurd ho (by decide),fun _ _ _ _=>by unfold Sim;kernel_rfl,fun _ _=>of_decide_eq_true (by kernel_rfl)⟩
  · exact ⟨fun _ _ _=>by kernel_rfl,fun ho=>absurd ho (by decide),fun _ _ _ _=>by unfold Sim;kernel_rfl,fun _ _=>of_decide_eq_true (by kernel_rfl)⟩
  · exact ⟨fun _ _ _=>by kernel_rfl,fun ho=>absurd ho (by decide),fun _ _ _ _=>by unfold Sim;kernel_rfl,fun _ _=>of_decide_eq_true (by kernel_rfl)⟩
/-- **PvalidZeros** -/
theorem PvalidZeros_any (how wh:Int) (z:Bool) (w:World) (_h0 : -9223372036854775808≤how) (_h1:how < 9223372036854775808) (_k0 : -9223372036854775808≤wh) (_k1:wh < 9223372036854775808) (hU:U8T w) (hT:Tab w) :
    Calls Tryd.prog 4 #[.int .i64 how,.int .i64 wh,.bool z] w fun e w'=>e=.returned (.bool true)∧Below w.heap.size w w':=by
  have key:∀ (nm:ByteArray) (F:VT) (S:Nat→ByteArray) (out:Nat→Bool),(∀ h,h < 4→(S h).size≤8192∧loadR (S h)=some (zrL h nm))→(∀ h,h < 4→∀ A,checkB (pmsOf (zrL h nm) A) 1=true)→(∀ (h:Nat) (X:VT),XF h F X→ZrV h nm (out h) X) →
      ZrC w F (S 0) (S 1) (S 2) (S 3) (fun h wx a c=>∃ A,PL wx a 1 c (pmsOf (zrL h nm) A)) out:=by
    intro nm F S out hS hC hV
    have L:∀ h,h < 4→∀ wr:World,Calls Tryd.prog 5 #[.string (S h)] wr fun e w'=>∃ (a:Option Addr) (c:Nat),e=.returned (.tuple #[.slice a 1 c,.int .i64 0])∧(∃ A,PL w' a 1 c (pmsOf (zrL h nm) A))∧Below wr.heap.size wr w':=by
      intro h hl wr
      refine (RLoad_any (S h) (hS h hl).1 wr).mono fun e w' hq=>?_
      rcases hq with ⟨hb,⟨h1,-⟩|⟨l,a,c,A,h1,h2,h3⟩⟩
      · rw [(hS h hl).2] at h1;cases h1
      · rw [(hS h hl).2] at h1
        injection h1 with h1
        subst h1
        rcases h3 with ⟨-,h4⟩|⟨h4,-⟩
        · exact ⟨a,c,h4,⟨A,h2⟩,hb⟩
        · exact absurd (show checkI (pmsOf (zrL h nm) A) 1=0 by unfold checkI;rw [hC h hl A];rfl) h4
    refine ⟨fun wr hx=>told23_any wr (Utf8Tabs_below hU hx) (hT.below hx),fun h wr wx a c ⟨A,ha⟩ hx=>⟨A,ha.below hx⟩,?_,L 0 (by omega),L 1 (by omega),L 2 (by omega),L 3 (by omega)⟩
    intro h X wx a c g k hX hx ⟨A,hA⟩ hi
    have V:=hV h X hX
    have hn:=PNormV_any (pmsOf (zrL h nm) A) a 1 c (recX g k X) wx hA hi (Utf8Tabs_below hU hx) (hT.below hx) (V.n g k)
    rw [V.v A g k] at hn
    refine hn.mono ?_
    rintro e w' ⟨t,rfl,ht,h2,-,h4⟩
    have hs:=(h2 rfl).s
    cases t with
    | nil=>exact ht.elim
    | mk kind neg V' bits text aL nL cL kids aK nK cK keys=>
      refine ⟨kind,neg,V',bits,text,aL,nL,cL,aK,nK,cK,rfl,fun ho=>?_,fun ho=>Lib.hid fun wy hy=>?_,h4⟩
      · unfold recX at hs
        rw [nrm_msg] at hs
        obtain ⟨⟨-,-,-,-,-,-,hk⟩,-,-⟩:=sim_mk.1 hs
        exact hk.trans (V.o ho A)
      · have e:=Sim.trans hs (V.s ho A g k)
        have r:=RSame_any _ (recX g k X) wy (VT.In.below hy _ ht) (VT.In.below hy _ (VT.In.below h4 _ hi))
        rw [show VT.sameB (VT.mk kind neg V' bits text aL nL cL kids aK nK cK keys) (recX g k X)=true from e] at r
        exact r
  obtain ⟨h,hh⟩:∃ h:Nat,(h:Int)=wrap64 ((IntKind.u64.wrap how).tmod 4):=⟨(wrap64 ((IntKind.u64.wrap how).tmod 4)).toNat,by
    rw [IntKind.wrap_u64,Int.tmod_eq_emod_of_nonneg (by omega)]
    simp only [wrap64]
    omega⟩
  have hl:h < 4:=by
    rw [IntKind.wrap_u64,Int.tmod_eq_emod_of_nonneg (by omega)] at hh
    simp only [wrap64] at hh
    omega
  have hb:(wrap64 ((IntKind.u64.wrap wh).tmod 6)=0∨wrap64 ((IntKind.u64.wrap wh).tmod 6)=1∨wrap64 ((IntKind.u64.wrap wh).tmod 6)=2∨wrap64 ((IntKind.u64.wrap wh).tmod 6)=3∨wrap64 ((IntKind.u64.wrap wh).tmod 6)=4∨wrap64 ((IntKind.u64.wrap wh).tmod 6)=5):=by
    rw [IntKind.wrap_u64,Int.tmod_eq_emod_of_nonneg (by omega)]
    simp only [wrap64]
    omega
  rcases hb with hq|hq|hq|hq|hq|hq
  · cases z with
    | false=>
      have K:=key ⟨#[105,110,116,51,50]⟩ (flatV 3 false 5 0 ⟨#[]⟩) (fun h=>if h=0 then ⟨#[115,121,110,116,97,120,32,61,32,34,112,114,111,116,111,51,34,59,32,109,101,115,115,97,103,101,32,77,32,123,32,105,110,116,51,50,32,120,32,61,32,49,59,32,125]⟩ else if h=1 then ⟨#[115,121,110,116,97,120,32,61,32,34,112,114,111,116,111,51,34,59,32,109,101,115,115,97,103,101,32,77,32,123,32,111,112,116,105,111,110,97,108,32,105,110,116,51,50,32,120,32,61,32,49,59,32,125]⟩ else if h=2 then ⟨#[115,121,110,116,97,120,32,61,32,34,112,114,111,116,111,51,34,59,32,109,101,115,115,97,103,101,32,77,32,123,32,114,101,112,101,97,116,101,100,32,105,110,116,51,50,32,120,32,61,32,49,59,32,125]⟩ else ⟨#[115,121,110,116,97,120,32,61,32,34,112,114,111,116,111,51,34,59,32,109,101,115,115,97,103,101,32,77,32,123,32,109,97,112,60,115,116,114,105,110,103,44,32,105,110,116,51,50,62,32,120,32,61,32,49,59,32,125]⟩) (fun _=>false) (fun h hl=>by
        rcases (show h=0∨h=1∨h=2∨h=3 by omega) with rfl|rfl|rfl|rfl
        · exact ⟨by decide,zr_read00⟩
        · exact ⟨by decide,zr_read01⟩
        · exact ⟨by decide,zr_read02⟩
        · exact ⟨by decide,zr_read03⟩) zr_check0 zr_v00
      exact Zr_go00 how wh _ _ _ _ _ _ _ _ _ _ _ _ _ _ _ rfl rfl (by kernel_rfl) rfl rfl rfl (by kernel_rfl) rfl rfl rfl (by kernel_rfl) rfl rfl rfl (by kernel_rfl) (by decide) h hl hh.symm hq _ _ rfl w (Lib.hid K)
    | true=>
      have K:=key ⟨#[105,110,116,51,50]⟩ (flatV 3 false 0 0 ⟨#[]⟩) (fun h=>if h=0 then ⟨#[115,121,110,116,97,120,32,61,32,34,112,114,111,116,111,51,34,59,32,109,101,115,115,97,103,101,32,77,32,123,32,105,110,116,51,50,32,120,32,61,32,49,59,32,125]⟩ else if h=1 then ⟨#[115,121,110,116,97,120,32,61,32,34,112,114,111,116,111,51,34,59,32,109,101,115,115,97,103,101,32,77,32,123,32,111,112,116,105,111,110,97,108,32,105,110,116,51,50,32,120,32,61,32,49,59,32,125]⟩ else if h=2 then ⟨#[115,121,110,116,97,120,32,61,32,34,112,114,111,116,111,51,34,59,32,109,101,115,115,97,103,101,32,77,32,123,32,114,101,112,101,97,116,101,100,32,105,110,116,51,50,32,120,32,61,32,49,59,32,125]⟩ else ⟨#[115,121,110,116,97,120,32,61,32,34,112,114,111,116,111,51,34,59,32,109,101,115,115,97,103,101,32,77,32,123,32,109,97,112,60,115,116,114,105,110,103,44,32,105,110,116,51,50,62,32,120,32,61,32,49,59,32,125]⟩) (fun h=>decide (h=0)) (fun h hl=>by
        rcases (show h=0∨h=1∨h=2∨h=3 by omega) with rfl|rfl|rfl|rfl
        · exact ⟨by decide,zr_read00⟩
        · exact ⟨by decide,zr_read01⟩
        · exact ⟨by decide,zr_read02⟩
        · exact ⟨by decide,zr_read03⟩) zr_check0 zr_v01
      exact Zr_go01 how wh _ _ _ _ _ _ _ _ _ _ _ _ _ _ _ rfl rfl (by kernel_rfl) rfl rfl rfl (by kernel_rfl) rfl rfl rfl (by kernel_rfl) rfl rfl rfl (by kernel_rfl) (by decide) h hl hh.symm hq _ _ rfl w (Lib.hid K)
  · cases z with
    | false=>
      have K:=key ⟨#[98,111,111,108]⟩ (flatV 2 false 0 1 ⟨#[]⟩) (fun h=>if h=0 then ⟨#[115,121,110,116,97,120,32,61,32,34,112,114,111,116,111,51,34,59,32,109,101,115,115,97,103,101,32,77,32,123,32,98,111,111,108,32,120,32,61,32,49,59,32,125]⟩ else if h=1 then ⟨#[115,121,110,116,97,120,32,61,32,34,112,114,111,116,111,51,34,59,32,109,101,115,115,97,103,101,32,77,32,123,32,111,112,116,105,111,110,97,108,32,98,111,111,108,32,120,32,61,32,49,59,32,125]⟩ else if h=2 then ⟨#[115,121,110,116,97,120,32,61,32,34,112,114,111,116,111,51,34,59,32,109,101,115,115,97,103,101,32,77,32,123,32,114,101,112,101,97,116,101,100,32,98,111,111,108,32,120,32,61,32,49,59,32,125]⟩ else ⟨#[115,121,110,116,97,120,32,61,32,34,112,114,111,116,111,51,34,59,32,109,101,115,115,97,103,101,32,77,32,123,32,109,97,112,60,115,116,114,105,110,103,44,32,98,111,111,108,62,32,120,32,61,32,49,59,32,125]⟩) (fun _=>false) (fun h hl=>by
        rcases (show h=0∨h=1∨h=2∨h=3 by omega) with rfl|rfl|rfl|rfl
        · exact ⟨by decide,zr_read10⟩
        · exact ⟨by decide,zr_read11⟩
        · exact ⟨by decide,zr_read12⟩
        · exact ⟨by decide,zr_read13⟩) zr_check1 zr_v10
      exact Zr_go10 how wh _ _ _ _ _ _ _ _ _ _ _ _ _ _ _ rfl rfl (by kernel_rfl) rfl rfl rfl (by kernel_rfl) rfl rfl rfl (by kernel_rfl) rfl rfl rfl (by kernel_rfl) (by decide) h hl hh.symm hq _ _ rfl w (Lib.hid K)
    | true=>
      have K:=key ⟨#[98,111,111,108]⟩ (flatV 2 false 0 0 ⟨#[]⟩) (fun h=>if h=0 then ⟨#[115,121,110,116,97,120,32,61,32,34,112,114,111,116,111,51,34,59,32,109,101,115,115,97,103,101,32,77,32,123,32,98,111,111,108,32,120,32,61,32,49,59,32,125]⟩ else if h=1 then ⟨#[115,121,110,116,97,120,32,61,32,34,112,114,111,116,111,51,34,59,32,109,101,115,115,97,103,101,32,77,32,123,32,111,112,116,105,111,110,97,108,32,98,111,111,108,32,120,32,61,32,49,59,32,125]⟩ else if h=2 then ⟨#[115,121,110,116,97,120,32,61,32,34,112,114,111,116,111,51,34,59,32,109,101,115,115,97,103,101,32,77,32,123,32,114,101,112,101,97,116,101,100,32,98,111,111,108,32,120,32,61,32,49,59,32,125]⟩ else ⟨#[115,121,110,116,97,120,32,61,32,34,112,114,111,116,111,51,34,59,32,109,101,115,115,97,103,101,32,77,32,123,32,109,97,112,60,115,116,114,105,110,103,44,32,98,111,111,108,62,32,120,32,61,32,49,59,32,125]⟩) (fun h=>decide (h=0)) (fun h hl=>by
        rcases (show h=0∨h=1∨h=2∨h=3 by omega) with rfl|rfl|rfl|rfl
        · exact ⟨by decide,zr_read10⟩
        · exact ⟨by decide,zr_read11⟩
        · exact ⟨by decide,zr_read12⟩
        · exact ⟨by decide,zr_read13⟩) zr_check1 zr_v11
      exact Zr_go11 how wh _ _ _ _ _ _ _ _ _ _ _ _ _ _ _ rfl rfl (by kernel_rfl) rfl rfl rfl (by kernel_rfl) rfl rfl rfl (by kernel_rfl) rfl rfl rfl (by kernel_rfl) (by decide) h hl hh.symm hq _ _ rfl w (Lib.hid K)
  · cases z with
    | false=>
      have K:=key ⟨#[115,116,114,105,110,103]⟩ (flatV 5 false 0 0 ⟨#[120]⟩) (fun h=>if h=0 then ⟨#[115,121,110,116,97,120,32,61,32,34,112,114,111,116,111,51,34,59,32,109,101,115,115,97,103,101,32,77,32,123,32,115,116,114,105,110,103,32,120,32,61,32,49,59,32,125]⟩ else if h=1 then ⟨#[115,121,110,116,97,120,32,61,32,34,112,114,111,116,111,51,34,59,32,109,101,115,115,97,103,101,32,77,32,123,32,111,112,116,105,111,110,97,108,32,115,116,114,105,110,103,32,120,32,61,32,49,59,32,125]⟩ else if h=2 then ⟨#[115,121,110,116,97,120,32,61,32,34,112,114,111,116,111,51,34,59,32,109,101,115,115,97,103,101,32,77,32,123,32,114,101,112,101,97,116,101,100,32,115,116,114,105,110,103,32,120,32,61,32,49,59,32,125]⟩ else ⟨#[115,121,110,116,97,120,32,61,32,34,112,114,111,116,111,51,34,59,32,109,101,115,115,97,103,101,32,77,32,123,32,109,97,112,60,115,116,114,105,110,103,44,32,115,116,114,105,110,103,62,32,120,32,61,32,49,59,32,125]⟩) (fun _=>false) (fun h hl=>by
        rcases (show h=0∨h=1∨h=2∨h=3 by omega) with rfl|rfl|rfl|rfl
        · exact ⟨by decide,zr_read20⟩
        · exact ⟨by decide,zr_read21⟩
        · exact ⟨by decide,zr_read22⟩
        · exact ⟨by decide,zr_read23⟩) zr_check2 zr_v20
      exact Zr_go20 how wh _ _ _ _ _ _ _ _ _ _ _ _ _ _ _ rfl rfl (by kernel_rfl) rfl rfl rfl (by kernel_rfl) rfl rfl rfl (by kernel_rfl) rfl rfl rfl (by kernel_rfl) (by decide) h hl hh.symm hq _ _ rfl w (Lib.hid K)
    | true=>
      have K:=key ⟨#[115,116,114,105,110,103]⟩ (flatV 5 false 0 0 ⟨#[]⟩) (fun h=>if h=0 then ⟨#[115,121,110,116,97,120,32,61,32,34,112,114,111,116,111,51,34,59,32,109,101,115,115,97,103,101,32,77,32,123,32,115,116,114,105,110,103,32,120,32,61,32,49,59,32,125]⟩ else if h=1 then ⟨#[115,121,110,116,97,120,32,61,32,34,112,114,111,116,111,51,34,59,32,109,101,115,115,97,103,101,32,77,32,123,32,111,112,116,105,111,110,97,108,32,115,116,114,105,110,103,32,120,32,61,32,49,59,32,125]⟩ else if h=2 then ⟨#[115,121,110,116,97,120,32,61,32,34,112,114,111,116,111,51,34,59,32,109,101,115,115,97,103,101,32,77,32,123,32,114,101,112,101,97,116,101,100,32,115,116,114,105,110,103,32,120,32,61,32,49,59,32,125]⟩ else ⟨#[115,121,110,116,97,120,32,61,32,34,112,114,111,116,111,51,34,59,32,109,101,115,115,97,103,101,32,77,32,123,32,109,97,112,60,115,116,114,105,110,103,44,32,115,116,114,105,110,103,62,32,120,32,61,32,49,59,32,125]⟩) (fun h=>decide (h=0)) (fun h hl=>by
        rcases (show h=0∨h=1∨h=2∨h=3 by omega) with rfl|rfl|rfl|rfl
        · exact ⟨by decide,zr_read20⟩
        · exact ⟨by decide,zr_read21⟩
        · exact ⟨by decide,zr_read22⟩
        · exact ⟨by decide,zr_read23⟩) zr_check2 zr_v21
      exact Zr_go21 how wh _ _ _ _ _ _ _ _ _ _ _ _ _ _ _ rfl rfl (by kernel_rfl) rfl rfl rfl (by kernel_rfl) rfl rfl rfl (by kernel_rfl) rfl rfl rfl (by kernel_rfl) (by decide) h hl hh.symm hq _ _ rfl w (Lib.hid K)
  · cases z with
    | false=>
      have K:=key ⟨#[98,121,116,101,115]⟩ (flatV 6 false 0 0 ⟨#[255]⟩) (fun h=>if h=0 then ⟨#[115,121,110,116,97,120,32,61,32,34,112,114,111,116,111,51,34,59,32,109,101,115,115,97,103,101,32,77,32,123,32,98,121,116,101,115,32,120,32,61,32,49,59,32,125]⟩ else if h=1 then ⟨#[115,121,110,116,97,120,32,61,32,34,112,114,111,116,111,51,34,59,32,109,101,115,115,97,103,101,32,77,32,123,32,111,112,116,105,111,110,97,108,32,98,121,116,101,115,32,120,32,61,32,49,59,32,125]⟩ else if h=2 then ⟨#[115,121,110,116,97,120,32,61,32,34,112,114,111,116,111,51,34,59,32,109,101,115,115,97,103,101,32,77,32,123,32,114,101,112,101,97,116,101,100,32,98,121,116,101,115,32,120,32,61,32,49,59,32,125]⟩ else ⟨#[115,121,110,116,97,120,32,61,32,34,112,114,111,116,111,51,34,59,32,109,101,115,115,97,103,101,32,77,32,123,32,109,97,112,60,115,116,114,105,110,103,44,32,98,121,116,101,115,62,32,120,32,61,32,49,59,32,125]⟩) (fun _=>false) (fun h hl=>by
        rcases (show h=0∨h=1∨h=2∨h=3 by omega) with rfl|rfl|rfl|rfl
        · exact ⟨by decide,zr_read30⟩
        · exact ⟨by decide,zr_read31⟩
        · exact ⟨by decide,zr_read32⟩
        · exact ⟨by decide,zr_read33⟩) zr_check3 zr_v30
      exact Zr_go30 how wh _ _ _ _ _ _ _ _ _ _ _ _ _ _ _ rfl rfl (by kernel_rfl) rfl rfl rfl (by kernel_rfl) rfl rfl rfl (by kernel_rfl) rfl rfl rfl (by kernel_rfl) (by decide) h hl hh.symm hq _ _ rfl w (Lib.hid K)
    | true=>
      have K:=key ⟨#[98,121,116,101,115]⟩ (flatV 6 false 0 0 ⟨#[]⟩) (fun h=>if h=0 then ⟨#[115,121,110,116,97,120,32,61,32,34,112,114,111,116,111,51,34,59,32,109,101,115,115,97,103,101,32,77,32,123,32,98,121,116,101,115,32,120,32,61,32,49,59,32,125]⟩ else if h=1 then ⟨#[115,121,110,116,97,120,32,61,32,34,112,114,111,116,111,51,34,59,32,109,101,115,115,97,103,101,32,77,32,123,32,111,112,116,105,111,110,97,108,32,98,121,116,101,115,32,120,32,61,32,49,59,32,125]⟩ else if h=2 then ⟨#[115,121,110,116,97,120,32,61,32,34,112,114,111,116,111,51,34,59,32,109,101,115,115,97,103,101,32,77,32,123,32,114,101,112,101,97,116,101,100,32,98,121,116,101,115,32,120,32,61,32,49,59,32,125]⟩ else ⟨#[115,121,110,116,97,120,32,61,32,34,112,114,111,116,111,51,34,59,32,109,101,115,115,97,103,101,32,77,32,123,32,109,97,112,60,115,116,114,105,110,103,44,32,98,121,116,101,115,62,32,120,32,61,32,49,59,32,125]⟩) (fun h=>decide (h=0)) (fun h hl=>by
        rcases (show h=0∨h=1∨h=2∨h=3 by omega) with rfl|rfl|rfl|rfl
        · exact ⟨by decide,zr_read30⟩
        · exact ⟨by decide,zr_read31⟩
        · exact ⟨by decide,zr_read32⟩
        · exact ⟨by decide,zr_read33⟩) zr_check3 zr_v31
      exact Zr_go31 how wh _ _ _ _ _ _ _ _ _ _ _ _ _ _ _ rfl rfl (by kernel_rfl) rfl rfl rfl (by kernel_rfl) rfl rfl rfl (by kernel_rfl) rfl rfl rfl (by kernel_rfl) (by decide) h hl hh.symm hq _ _ rfl w (Lib.hid K)
  · cases z with
    | false=>
      have K:=key ⟨#[100,111,117,98,108,101]⟩ (flatV 4 false 0 4602678819172646912 ⟨#[]⟩) (fun h=>if h=0 then ⟨#[115,121,110,116,97,120,32,61,32,34,112,114,111,116,111,51,34,59,32,109,101,115,115,97,103,101,32,77,32,123,32,100,111,117,98,108,101,32,120,32,61,32,49,59,32,125]⟩ else if h=1 then ⟨#[115,121,110,116,97,120,32,61,32,34,112,114,111,116,111,51,34,59,32,109,101,115,115,97,103,101,32,77,32,123,32,111,112,116,105,111,110,97,108,32,100,111,117,98,108,101,32,120,32,61,32,49,59,32,125]⟩ else if h=2 then ⟨#[115,121,110,116,97,120,32,61,32,34,112,114,111,116,111,51,34,59,32,109,101,115,115,97,103,101,32,77,32,123,32,114,101,112,101,97,116,101,100,32,100,111,117,98,108,101,32,120,32,61,32,49,59,32,125]⟩ else ⟨#[115,121,110,116,97,120,32,61,32,34,112,114,111,116,111,51,34,59,32,109,101,115,115,97,103,101,32,77,32,123,32,109,97,112,60,115,116,114,105,110,103,44,32,100,111,117,98,108,101,62,32,120,32,61,32,49,59,32,125]⟩) (fun _=>false) (fun h hl=>by
        rcases (show h=0∨h=1∨h=2∨h=3 by omega) with rfl|rfl|rfl|rfl
        · exact ⟨by decide,zr_read40⟩
        · exact ⟨by decide,zr_read41⟩
        · exact ⟨by decide,zr_read42⟩
        · exact ⟨by decide,zr_read43⟩) zr_check4 zr_v40
      exact Zr_go40 how wh _ _ _ _ _ _ _ _ _ _ _ _ _ _ _ rfl rfl (by kernel_rfl) rfl rfl rfl (by kernel_rfl) rfl rfl rfl (by kernel_rfl) rfl rfl rfl (by kernel_rfl) (by decide) h hl hh.symm hq _ _ rfl w (Lib.hid K)
    | true=>
      have K:=key ⟨#[100,111,117,98,108,101]⟩ (flatV 3 false 0 0 ⟨#[]⟩) (fun h=>if h=0 then ⟨#[115,121,110,116,97,120,32,61,32,34,112,114,111,116,111,51,34,59,32,109,101,115,115,97,103,101,32,77,32,123,32,100,111,117,98,108,101,32,120,32,61,32,49,59,32,125]⟩ else if h=1 then ⟨#[115,121,110,116,97,120,32,61,32,34,112,114,111,116,111,51,34,59,32,109,101,115,115,97,103,101,32,77,32,123,32,111,112,116,105,111,110,97,108,32,100,111,117,98,108,101,32,120,32,61,32,49,59,32,125]⟩ else if h=2 then ⟨#[115,121,110,116,97,120,32,61,32,34,112,114,111,116,111,51,34,59,32,109,101,115,115,97,103,101,32,77,32,123,32,114,101,112,101,97,116,101,100,32,100,111,117,98,108,101,32,120,32,61,32,49,59,32,125]⟩ else ⟨#[115,121,110,116,97,120,32,61,32,34,112,114,111,116,111,51,34,59,32,109,101,115,115,97,103,101,32,77,32,123,32,109,97,112,60,115,116,114,105,110,103,44,32,100,111,117,98,108,101,62,32,120,32,61,32,49,59,32,125]⟩) (fun h=>decide (h=0)) (fun h hl=>by
        rcases (show h=0∨h=1∨h=2∨h=3 by omega) with rfl|rfl|rfl|rfl
        · exact ⟨by decide,zr_read40⟩
        · exact ⟨by decide,zr_read41⟩
        · exact ⟨by decide,zr_read42⟩
        · exact ⟨by decide,zr_read43⟩) zr_check4 zr_v41
      exact Zr_go41 how wh _ _ _ _ _ _ _ _ _ _ _ _ _ _ _ rfl rfl (by kernel_rfl) rfl rfl rfl (by kernel_rfl) rfl rfl rfl (by kernel_rfl) rfl rfl rfl (by kernel_rfl) (by decide) h hl hh.symm hq _ _ rfl w (Lib.hid K)
  · cases z with
    | false=>
      have K:=key ⟨#[77]⟩ (flatV 8 false 0 0 ⟨#[]⟩) (fun h=>if h=0 then ⟨#[115,121,110,116,97,120,32,61,32,34,112,114,111,116,111,51,34,59,32,109,101,115,115,97,103,101,32,77,32,123,32,77,32,120,32,61,32,49,59,32,125]⟩ else if h=1 then ⟨#[115,121,110,116,97,120,32,61,32,34,112,114,111,116,111,51,34,59,32,109,101,115,115,97,103,101,32,77,32,123,32,111,112,116,105,111,110,97,108,32,77,32,120,32,61,32,49,59,32,125]⟩ else if h=2 then ⟨#[115,121,110,116,97,120,32,61,32,34,112,114,111,116,111,51,34,59,32,109,101,115,115,97,103,101,32,77,32,123,32,114,101,112,101,97,116,101,100,32,77,32,120,32,61,32,49,59,32,125]⟩ else ⟨#[115,121,110,116,97,120,32,61,32,34,112,114,111,116,111,51,34,59,32,109,101,115,115,97,103,101,32,77,32,123,32,109,97,112,60,115,116,114,105,110,103,44,32,77,62,32,120,32,61,32,49,59,32,125]⟩) (fun _=>false) (fun h hl=>by
        rcases (show h=0∨h=1∨h=2∨h=3 by omega) with rfl|rfl|rfl|rfl
        · exact ⟨by decide,zr_read50⟩
        · exact ⟨by decide,zr_read51⟩
        · exact ⟨by decide,zr_read52⟩
        · exact ⟨by decide,zr_read53⟩) zr_check5 zr_v50
      exact Zr_go50 how wh _ _ _ _ _ _ _ _ _ _ _ _ _ _ _ rfl rfl (by kernel_rfl) rfl rfl rfl (by kernel_rfl) rfl rfl rfl (by kernel_rfl) rfl rfl rfl (by kernel_rfl) (by decide) h hl hh.symm hq _ _ rfl w (Lib.hid K)
    | true=>
      have K:=key ⟨#[77]⟩ (flatV 8 false 0 0 ⟨#[]⟩) (fun h=>if h=0 then ⟨#[115,121,110,116,97,120,32,61,32,34,112,114,111,116,111,51,34,59,32,109,101,115,115,97,103,101,32,77,32,123,32,77,32,120,32,61,32,49,59,32,125]⟩ else if h=1 then ⟨#[115,121,110,116,97,120,32,61,32,34,112,114,111,116,111,51,34,59,32,109,101,115,115,97,103,101,32,77,32,123,32,111,112,116,105,111,110,97,108,32,77,32,120,32,61,32,49,59,32,125]⟩ else if h=2 then ⟨#[115,121,110,116,97,120,32,61,32,34,112,114,111,116,111,51,34,59,32,109,101,115,115,97,103,101,32,77,32,123,32,114,101,112,101,97,116,101,100,32,77,32,120,32,61,32,49,59,32,125]⟩ else ⟨#[115,121,110,116,97,120,32,61,32,34,112,114,111,116,111,51,34,59,32,109,101,115,115,97,103,101,32,77,32,123,32,109,97,112,60,115,116,114,105,110,103,44,32,77,62,32,120,32,61,32,49,59,32,125]⟩) (fun _=>false) (fun h hl=>by
        rcases (show h=0∨h=1∨h=2∨h=3 by omega) with rfl|rfl|rfl|rfl
        · exact ⟨by decide,zr_read50⟩
        · exact ⟨by decide,zr_read51⟩
        · exact ⟨by decide,zr_read52⟩
        · exact ⟨by decide,zr_read53⟩) zr_check5 zr_v51
      exact Zr_go51 how wh _ _ _ _ _ _ _ _ _ _ _ _ _ _ _ rfl rfl (by kernel_rfl) rfl rfl rfl (by kernel_rfl) rfl rfl rfl (by kernel_rfl) rfl rfl rfl (by kernel_rfl) (by decide) h hl hh.symm hq _ _ rfl w (Lib.hid K)
end Go.Proofs.YtfondldmmcmloaaDoor
