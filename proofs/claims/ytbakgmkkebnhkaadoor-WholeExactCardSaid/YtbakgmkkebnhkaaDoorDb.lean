/- Contracts of the document's digits: Of, Nat. -/
import Derived.Test.YtbakgmkkebnhkaaDoorDa
import Derived.Deep.RegionLaw
namespace Go.Proofs.YtbakgmkkebnhkaaDoor
open Go.RowKit
/-- the first m digits as cells -/
def digl (V m : Nat) : List Value := (List.range m).map fun j => Value.int .u32 (dig V j : Nat)
theorem digl_length (V m : Nat) : (digl V m).length = m := by simp [digl]
theorem digl_succ2 (V m : Nat) : digl V (m + 2) = digl V m ++ [.int .u32 (dig V m : Nat), .int .u32 (dig V (m + 1) : Nat)] := by
  unfold digl
  rw [show m + 2 = (m + 1) + 1 from rfl, List.range_succ, List.range_succ]
  simp
theorem digl_get {V m j : Nat} (h : j < m) : (digl V m)[j]? = some (.int .u32 (dig V j : Nat)) := by
  simp [digl, List.getElem?_map, List.getElem?_range h]
theorem infoU32 : (Tryd.prog.info? 64).map (fun i => (i.zero, i.size, i.bytes)) = some (some (.int .u32 0), 1, 4) := by kernel_rfl
/-- an owned row of digits is a number -/
theorem DN_own {w : World} {base n V : Nat} {v : Value} (h : w.ownsRow base 64 1 v n (digl V n)) (hV : V < 2 ^ (32 * n)) (hn : n ≤ 281474976) : DN w v n V := by
  refine ⟨hV, hn, ?_⟩
  have hl := h.lt
  rcases h.2 with ⟨rfl, rfl⟩ | ⟨g, cap, cur, rfl, hg, hh, hc, hm, _, _⟩
  · exact ⟨none, 0, rfl, Nat.le_refl _, by decide, fun h => absurd h (by decide)⟩
  · refine ⟨_, cap, rfl, hc, hm, fun _ => ⟨g, rfl, (hl g rfl).2, fun j hj => ?_⟩⟩
    rw [h.cellAt j (by omega), digl_get hj]
/-- a limb is two digits -/
theorem dig_lo (V k : Nat) : lm V k % 4294967296 = dig V (2 * k) := by
  unfold lm dig
  rw [show 32 * (2 * k) = 64 * k from by omega]
  generalize V / 2 ^ (64 * k) = x
  omega
theorem dig_hi (V k : Nat) : lm V k / 4294967296 = dig V (2 * k + 1) := by
  unfold lm dig
  rw [show 32 * (2 * k + 1) = 64 * k + 32 from by omega, Nat.pow_add, ← Nat.div_div_eq_div_mul]
  generalize V / 2 ^ (64 * k) = x
  omega
/-- append to a row of the call's own, as one step of a region that draws its order -/
theorem step_append_own {P : Program} {ops : Array Oper} {o : Oper} {a : Act} {w : World} {K : Act → World → Prop} {Q : Exit → Act → World → Prop} {E : Prop}
    (hg : o.guard = none) (s x : Operand) (t : TypeId) (ho : o.op = .call { callee := .builtin .append, args := #[s, x], argTypes := #[t, t] })
    (base : Nat) (e : TypeId) (i : TypeInfo) (z : Value) (size bytes : Nat) (ht : P.underlying t = some (.slice e)) (hi : P.info? e = some i) (hz : i.zero = some z)
    (hsize : i.size = size) (hby : i.bytes = bytes) (hzs : z.cells.size = size) (hsz : 0 < size)
    (v : Value) (n : Nat) (xs : List Value) (hs : a.eval s = v) (hown : w.ownsRow base e size v n xs)
    (ad : Addr) (m c : Nat) (news : List Value) (hx : a.eval x = .slice (some ad) m c) (hl : news.length = m * size) (hnews : ∀ j u, news[j]? = some u → w.cell? (ad.add j) = some u) (h1 : ∀ u ∈ news, u.oneCell' = true)
    (h63 : n + m ≤ maxLen) (hbytes : (n + m) * bytes ≤ 140737488355328) (hbase : base ≤ w.heap.size)
    (hK : ∀ v' w', w'.ownsRow base e size v' (n + m) (xs ++ news) → w.grownBy w' v.ownBlock → K (a.put o.dst v') w') :
    if Region.wanted o (yielded ops a.tmps) = true then Oper.wp P o a w K Q else E := by
  have hw : Region.wanted o (yielded ops a.tmps) = true := by simp [Region.wanted, hg]
  rw [if_pos hw]
  exact wp_append_own w s x t ho base e i z size bytes ht hi hz hsize hby hzs hsz v n xs hs hown ad m c news hx hl hnews h1 h63 hbytes hbase fun v' w' h2 h3 _ => hK v' w' h2 h3
theorem two_cells {w : World} {B : Nat} {x y : Value} (c0 : w.cell? ⟨B, 0, none⟩ = some x) (c1 : w.cell? ⟨B, 1, none⟩ = some y) : ∀ j u, [x, y][j]? = some u → w.cell? ((⟨B, 0, none⟩ : Addr).add j) = some u := by
  intro j u hj
  match j, hj with
  | 0, hj => simp at hj; subst hj; exact c0
  | 1, hj => simp at hj; subst hj; exact c1
theorem two_one {x y : Int} : ∀ u ∈ [Value.int .u32 x, Value.int .u32 y], u.oneCell' = true := by
  intro u hu
  simp at hu
  rcases hu with rfl | rfl <;> rfl
/-- what an append leaves of older blocks -/
theorem row_step {w wr w1 : World} {v : Value} {n : Nat} {xs : List Value} {e : TypeId} (hown : wr.ownsRow (w.heap.size + 1) e 1 v n xs) {o : Obj} (hg : (wr.drew.alloc o).grownBy w1 v.ownBlock) (hb : Below w.heap.size w wr) (hsz : w.heap.size + 1 ≤ wr.heap.size) :
    (∀ j x, wr.cell? ⟨w.heap.size, j, none⟩ = some x → w1.cell? ⟨w.heap.size, j, none⟩ = some x) ∧ w.heap.size + 1 ≤ w1.heap.size ∧ Below w.heap.size w w1 := by
  have hs := hg.size
  simp at hs
  have hne : some w.heap.size ≠ v.ownBlock := by
    intro h
    have := (hown.lt _ h.symm).1
    omega
  refine ⟨fun j x hx => hg.cell ?_ hne, by omega, ?_⟩
  · have : (wr.drew.alloc o).cell? ⟨w.heap.size, j, none⟩ = wr.cell? ⟨w.heap.size, j, none⟩ := (((Below.refl _ wr).drew).alloc (Nat.le_refl _) o).cell (p := ⟨w.heap.size, j, none⟩) (by show w.heap.size < wr.heap.size; omega)
    rw [this]
    exact hx
  · have h2 : Below w.heap.size w (wr.drew.alloc o) := (hb.drew).alloc (by show w.heap.size ≤ wr.heap.size; omega) o
    exact h2.grown hg (by simp; omega) (fun k hk => by have := (hown.lt _ hk).1; omega)
set_option maxRecDepth 20000 in
set_option maxHeartbeats 800000 in
/-- **Of.** -/
theorem DOf_any (V : Nat) (hV : V < 2 ^ 256) (w : World) :
    Calls Tryd.prog 42 #[.agg #[.int .u64 (lm (V) 0 : Nat), .int .u64 (lm (V) 1 : Nat), .int .u64 (lm (V) 2 : Nat), .int .u64 (lm (V) 3 : Nat)]] w fun e w' => ∃ v, e = .returned v ∧ IsD w' v V ∧ Below w.heap.size w w' := by
  obtain ⟨i0, hi, hz0, hz1, hz2⟩ := info_parts infoU32
  go_enter Tryd.func42, Tryd.ntmps42
  repeat any_goals (first | go_skip | go_guarded | go_step | go_upon | (simp only []; done))
  go_loopw [3, 4] (fun v i wr => ∃ k : Nat, k ≤ 4 ∧ i = .int .i64 k ∧ wr.ownsRow (w.heap.size + 1) 64 1 v (2 * k) (digl V (2 * k)) ∧ (∀ j, j < 4 → wr.cell? ⟨w.heap.size, j, none⟩ = some (.int .u64 (lm V j : Nat))) ∧ w.heap.size + 1 ≤ wr.heap.size ∧ Below w.heap.size w wr)
    (fun _ i _ => 4 - (intOf i).toNat)
  case atStart =>
    refine ⟨0, by omega, rfl, World.ownsRow_nil _ _ _ _, ?_, by simp, by (repeat first | with_reducible exact Below.refl _ _ | with_reducible assumption | with_reducible refine Below.drew ?_ | with_reducible refine below_alloc ?_ _ | ((with_reducible refine Below.setCell ?_ ?_ _); rotate_left; (focus (first | with_reducible exact Nat.le_refl _ | (simp; done) | (simp; omega) | omega))) | (with_reducible refine below_trans ?_ (by assumption)))⟩
    intro j hj
    match j, hj with
    | 0, _ => simp [go_sem]
    | 1, _ => simp [go_sem]
    | 2, _ => simp [go_sem]
    | 3, _ => simp [go_sem]
  case round =>
    obtain ⟨k, hk, rfl, hown, hcell, hsz, hbel⟩ := hrel
    have hc : k < 4 → wr.cell? ⟨w.heap.size, k, none⟩ = some (.int .u64 (lm V k : Nat)) := fun h => hcell k h
    have hlm := lm_lt V k
    obtain ⟨lo, hlo⟩ : ∃ lo, lo = dig V (2 * k) := ⟨_, rfl⟩
    obtain ⟨hi', hhi⟩ : ∃ h, h = dig V (2 * k + 1) := ⟨_, rfl⟩
    have hlo4 : lo < 4294967296 := by rw [hlo]; exact dig_lt _ _
    have hhi4 : hi' < 4294967296 := by rw [hhi]; exact dig_lt _ _
    have e1 : IntKind.u32.wrap ((lm V k : Nat) : Int) = (lo : Int) := by rw [IntKind.wrap_u32, hlo, ← dig_lo]; omega
    have e3 : IntKind.u32.wrap (hi' : Int) = (hi' : Int) := by rw [IntKind.wrap_u32]; omega
    have e2 : ((lm V k : Nat) : Int) / 4294967296 = (hi' : Int) := by rw [hhi, ← dig_hi]; omega
    have C := Lib.hid hcell
    have HS := Lib.hid hsz
    have HL := Lib.hid (And.intro hlo hhi)
    clear hcell hsz hlo hhi
    repeat any_goals (first | go_skip | go_guarded | go_step | go_upon | (simp only []; done))
    · have hk4 : k < 4 := by omega
      have hc2 := hc hk4
      clear hc
      have b1 : 2 * k + 2 ≤ maxLen := by unfold maxLen; omega
      have b2 : (2 * k + 2) * 4 ≤ 140737488355328 := by omega
      have BH := Lib.hid (And.intro b1 b2)
      clear b1 b2
      go_region_law (refine step_append_own rfl (.tmp 9) (.tmp 19) 54 rfl (w.heap.size + 1) 64 i0 (.int .u32 0) 1 4 Tryd.underlying54 hi hz0 hz1 hz2 rfl (by decide) u3 (2 * k) _ (by simp [Act.eval]) ((hown.drew).alloc _) ⟨wr.heap.size, 0, none⟩ 2 2 [.int .u32 (lo : Int), .int .u32 (hi' : Int)] (by simp [Act.eval]) rfl (two_cells (by simp [go_sem]) (by simp [go_sem])) two_one BH.out.1 BH.out.2 (by have := HS.out; simp; omega) ?_; intro v' w1 hown' hgrow')
      all_goals (
        have R := row_step hown hgrow' hbel HS.out
        have hown2 : w1.ownsRow (w.heap.size + 1) 64 1 v' (2 * (k + 1)) (digl V (2 * (k + 1))) := by
          rw [show 2 * (k + 1) = 2 * k + 2 from by omega, digl_succ2, ← HL.out.1, ← HL.out.2]
          exact hown'
        have RH := Lib.hid (And.intro R hown2)
        clear R hown2 hown' hgrow'
        repeat any_goals (first | go_skip | go_guarded | go_step | go_upon | (simp only []; done))
        go_roundw
        case rel => exact ⟨k + 1, by omega, by go_num, RH.out.2, fun j hj => RH.out.1.1 j _ (C.out j hj), RH.out.1.2.1, RH.out.1.2.2⟩
        case measure => simp [intOf]; omega)
    · have hk4 : k = 4 := by omega
      subst hk4
      have hD : DN wr u3 8 V := DN_own hown hV (by decide)
      repeat any_goals (first | (go_at_call 69; refine (trim_any _ _ _ _ hD).mono ?_; rintro e w' ⟨⟨v, rfl, hv⟩, rfl⟩) | go_skip | go_guarded | go_step | go_upon | (dsimp only []))
      go_ret
      exact ⟨v, rfl, hv, hbel⟩
end Go.Proofs.YtbakgmkkebnhkaaDoor
