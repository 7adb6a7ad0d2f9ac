/- The law ValueTurned, joined: plain facts on a value with one part turned. -/
import Derived.Test.YtminijokbeclhaaDoorTurned
namespace Go.Proofs.YtminijokbeclhaaDoor
open Go.RowKit
section
variable {kind : Int} {neg : Bool} {V bits : Nat} {text : ByteArray} {aL : Option Addr} {nL cL : Nat} {kids : Nat → VT} {aK : Option Addr} {nK cK : Nat} {keys : Nat → ByteArray}
theorem may_one {T : VT} (hd : T.depth ≤ 16) (hn : T.nodes ≤ 10000) (hl : T.long = false) (hr : T.right = false) : T.may = 1 := by
  unfold VT.may
  rw [if_neg (by omega), if_neg (fun h => by rcases h with h | h; omega; rw [hl] at h; cases h), hr]
  rfl
theorem right_split (h : (VT.mk kind neg V bits text aL nL cL kids aK nK cK keys).right = true) : midB kind neg V bits text nL nK keys = true ∧ (neg = bareNeg kind neg ∧ V = bareV kind V ∧ bits = bareB kind bits ∧ text = bareT kind text) ∧ anyN (fun i => !(kids i).right) nL = false := by
  simp only [VT.right, Bool.and_eq_true, Bool.not_eq_true'] at h
  obtain ⟨⟨m, e⟩, a⟩ := h
  unfold eqB at e
  exact ⟨m, by simpa using e, a⟩
theorem right_kind (h : (VT.mk kind neg V bits text aL nL cL kids aK nK cK keys).right = true) : 1 ≤ kind ∧ kind ≤ 8 := by
  have m1 := (right_split h).1
  unfold midB at m1
  by_cases h7 : kind = 7
  · omega
  · by_cases h8 : kind = 8
    · omega
    · rw [if_neg h7, if_neg h8] at m1
      simp only [Bool.and_eq_true, Bool.or_eq_true, decide_eq_true_eq] at m1
      omega
theorem right_mid (h : midB kind neg V bits text nL nK keys = false) : (VT.mk kind neg V bits text aL nL cL kids aK nK cK keys).right = false := by
  simp only [VT.right]
  rw [h]
  rfl
theorem right_eq (h : ¬ (neg = bareNeg kind neg ∧ V = bareV kind V ∧ bits = bareB kind bits ∧ text = bareT kind text)) : (VT.mk kind neg V bits text aL nL cL kids aK nK cK keys).right = false := by
  simp only [VT.right]
  have e : eqB kind neg V bits text = false := by
    unfold eqB
    exact decide_eq_false h
  rw [e, Bool.and_false]
  rfl
theorem right_all (h1 : midB kind neg V bits text nL nK keys = true) (h2 : neg = bareNeg kind neg ∧ V = bareV kind V ∧ bits = bareB kind bits ∧ text = bareT kind text) (h3 : anyN (fun i => !(kids i).right) nL = false) : (VT.mk kind neg V bits text aL nL cL kids aK nK cK keys).right = true := by
  simp only [VT.right]
  have e : eqB kind neg V bits text = true := by
    unfold eqB
    exact decide_eq_true h2
  rw [h1, e, h3]
  rfl
theorem few_sizes (h : (VT.mk kind neg V bits text aL nL cL kids aK nK cK keys).few 40 ≤ 400) : nL ≤ 400 ∧ nK ≤ 400 ∧ text.size ≤ 300 ∧ anyN (fun i => decide (300 < (keys i).size)) nK = false := by
  simp only [VT.few] at h
  split at h
  · omega
  · split at h
    · omega
    · rename_i h1 h2
      exact ⟨by omega, by omega, by omega, by simpa using h2⟩
theorem long_split (h : (VT.mk kind neg V bits text aL nL cL kids aK nK cK keys).long = false) : anyN (fun i => decide (4096 < (keys i).size)) nK = false ∧ anyN (fun i => (kids i).long) nL = false := by
  simp only [VT.long] at h
  split at h
  · cases h
  · split at h
    · cases h
    · rename_i h2
      exact ⟨by simpa using h2, h⟩
theorem long_mk (h1 : nL ≤ 1000) (h2 : nK ≤ 1000) (h3 : text.size ≤ 4096) (h4 : anyN (fun i => decide (4096 < (keys i).size)) nK = false) (h5 : anyN (fun i => (kids i).long) nL = false) : (VT.mk kind neg V bits text aL nL cL kids aK nK cK keys).long = false := by
  simp only [VT.long]
  rw [if_neg (by omega), h4, if_neg Bool.false_ne_true, h5]
theorem maxN_same {f g : Nat → Nat} {n : Nat} (h : ∀ i, i < n → f i = g i) : maxN f n = maxN g n := by
  induction n with
  | zero => rfl
  | succ n ih => simp only [maxN]; rw [ih fun i hi => h i (by omega), h n (by omega)]
theorem sumN_same {f g : Nat → Nat} {n : Nat} (h : ∀ i, i < n → f i = g i) : sumN f n = sumN g n := by
  induction n with
  | zero => rfl
  | succ n ih => simp only [sumN]; rw [ih fun i hi => h i (by omega), h n (by omega)]
theorem kidsB_old {n i : Nat} {T : VT} (h : i < n) : kidsB kids n T i = kids i := by unfold kidsB; rw [if_pos h]
theorem kidsB_new {n : Nat} {T : VT} : kidsB kids n T n = T := by unfold kidsB; rw [if_neg (by omega)]
/-- what a value of a kind that names no number with a sign holds there -/
theorem eqN4_zero {V : Nat} (hV : V < 2 ^ 256) : eqN4 (lm V 0 : Nat) (lm V 1 : Nat) (lm V 2 : Nat) (lm V 3 : Nat) 0 0 0 0 = decide (V = 0) := by
  unfold eqN4
  by_cases h : V = 0
  · subst h
    simp [lm_zero]
  · rw [decide_eq_false h, ← Bool.not_eq_true]
    intro h2
    simp only [Bool.and_eq_true, beq_iff_eq] at h2
    exact h (lm_inj hV (Nat.two_pow_pos _) (by rw [lm_zero]; omega) (by rw [lm_zero]; omega) (by rw [lm_zero]; omega) (by rw [lm_zero]; omega))
theorem mayF_two : mayF 2 = true := by decide +kernel
theorem valid_ff : validS ⟨#[255]⟩ = false := by decide +kernel
end
set_option maxHeartbeats 1000000 in
theorem ValueTurned_any (T : VT) (how : Int) (w : World) (hin : T.In w) (_h0 : -9223372036854775808 ≤ how) (_h1 : how < 9223372036854775808) (hU : U8T w) (hT : Tab w) :
    Calls Tryd.prog 11 #[T.agg, .int .i64 how] w fun e w' => e = .returned (.bool true) ∧ Below w.heap.size w w' := by
  have CT : Hid (∀ wr : World, Below w.heap.size w wr → Calls Tryd.prog 13 #[] wr fun e w' => e = .returned (.bool true) ∧ Below wr.heap.size wr w') := Lib.hid fun wr hb => told_any wr (Utf8Tabs_below hU hb) (hT.below hb)
  have CF : ∀ wr : World, Below w.heap.size w wr → Calls Tryd.prog 12 #[T.agg] wr fun e w' => e = .returned (.bool (decide (T.few 40 ≤ 400))) ∧ Below wr.heap.size wr w' := fun wr hb => Few_any T wr (hin.below hb)
  have CW : ∀ (W : VT) (wr : World), Below w.heap.size w wr → W.In wr → W.nodes < 4611686018427387904 → Calls Tryd.prog 16 #[W.agg] wr fun e w' => e = .returned (.int .i64 W.may) ∧ Below wr.heap.size wr w' := fun W wr hb h hn => MayV_any W wr h (Utf8Tabs_below hU hb) (hT.below hb) hn
  cases T with
  | nil => exact hin.elim
  | mk kind neg V bits text aL nL cL kids aK nK cK keys =>
  by_cases hf : (VT.mk kind neg V bits text aL nL cL kids aK nK cK keys).few 40 ≤ 400
  case neg =>
    rw [decide_eq_false hf] at CF
    exact Turned_few kind neg V bits text aL nL cL aK nK cK how w (Lib.hid CF) CT
  rw [decide_eq_true hf] at CF
  have C1 := Lib.hid CF
  have hn4 := (VT.few_nodes _ 40 hf).1
  have hn : (VT.mk kind neg V bits text aL nL cL kids aK nK cK keys).nodes ≤ 400 := by omega
  have CM0 : ∀ wr : World, Below w.heap.size w wr → Calls Tryd.prog 17 #[(VT.mk kind neg V bits text aL nL cL kids aK nK cK keys).agg] wr fun e w' => e = .returned (.int .i64 (VT.mk kind neg V bits text aL nL cL kids aK nK cK keys).may) ∧ Below wr.heap.size wr w' := fun wr hb => RMayV_any _ wr (hin.below hb) (by omega)
  by_cases hm : (VT.mk kind neg V bits text aL nL cL kids aK nK cK keys).may = 0
  case neg => exact Turned_not kind neg V bits text aL nL cL aK nK cK how _ hm w C1 (Lib.hid CM0) CT
  rw [hm] at CM0
  have C2 := Lib.hid CM0
  obtain ⟨m1, m2, m3, m4⟩ := VT.may_zero.1 hm
  obtain ⟨s1, s2, s3, s4⟩ := few_sizes hf
  obtain ⟨l1, l2⟩ := long_split m3
  obtain ⟨r1, ⟨q1, q2, q3, q4⟩, r3⟩ := right_split m4
  have hin0 := hin
  obtain ⟨o, hL, hk, hK⟩ := hin
  obtain ⟨k1, k2⟩ := right_kind m4
  -- one part turned, the rows as they are
  have flat : ∀ (kind' : Int) (neg' : Bool) (bits' : Nat) (text' : ByteArray) (m : Int), -9223372036854775808 ≤ kind' → kind' < 9223372036854775808 → bits' < 18446744073709551616 → text'.size ≤ 4096 →
      ((m = 1 ∧ (VT.mk kind' neg' V bits' text' aL nL cL kids aK nK cK keys).right = false) ∨ (m = 0 ∧ (VT.mk kind' neg' V bits' text' aL nL cL kids aK nK cK keys).right = true)) →
      Hid (∀ wr : World, Below w.heap.size w wr → Calls Tryd.prog 16 #[(VT.mk kind' neg' V bits' text' aL nL cL kids aK nK cK keys).agg] wr fun e w' => e = .returned (.int .i64 m) ∧ Below wr.heap.size wr w') := fun kind' neg' bits' text' m ka kb b1 t1 hm => Lib.hid fun wr hb => by
    have hi : (VT.mk kind' neg' V bits' text' aL nL cL kids aK nK cK keys).In wr := VT.In.below hb _ ⟨⟨ka, kb, o.v, b1, by unfold maxLen; omega, o.l, o.lc, o.n, o.nc⟩, hL, hk, hK⟩
    have hlong : (VT.mk kind' neg' V bits' text' aL nL cL kids aK nK cK keys).long = false := long_mk (by omega) (by omega) t1 l1 l2
    have h := CW _ wr hb hi (by show _ < _; have : (VT.mk kind' neg' V bits' text' aL nL cL kids aK nK cK keys).nodes = (VT.mk kind neg V bits text aL nL cL kids aK nK cK keys).nodes := rfl; omega)
    rcases hm with ⟨rfl, hr⟩ | ⟨rfl, hr⟩
    · rwa [may_one (T := VT.mk kind' neg' V bits' text' aL nL cL kids aK nK cK keys) m1 m2 hlong hr] at h
    · rwa [VT.may_zero (T := VT.mk kind' neg' V bits' text' aL nL cL kids aK nK cK keys).2 ⟨m1, m2, hlong, hr⟩] at h
  have hhow : ∃ r : Nat, (IntKind.u64.wrap how).tmod 6 = (r : Int) ∧ r < 6 := by
    have h1 : 0 ≤ IntKind.u64.wrap how := by
      unfold IntKind.wrap
      simp [IntKind.signed, IntKind.bits]
      omega
    refine ⟨((IntKind.u64.wrap how).tmod 6).toNat, ?_, ?_⟩
    · rw [Int.tmod_eq_emod_of_nonneg h1]; omega
    · rw [Int.tmod_eq_emod_of_nonneg h1]; omega
  obtain ⟨r, hr, hr6⟩ := hhow
  rcases (show r = 0 ∨ r = 1 ∨ r = 2 ∨ r = 3 ∨ r = 4 ∨ r = 5 by omega) with rfl | rfl | rfl | rfl | rfl | rfl
  · exact Turned_0 kind neg V bits text aL nL cL aK nK cK how w hr C1 C2 CT (flat 9 neg bits text 1 (by decide) (by decide) o.b (by omega) (.inl ⟨rfl, right_mid (by simp [midB])⟩))
  · by_cases h3 : kind = 3
    · subst h3
      have hmi := VT.right_int m4
      by_cases hv : V = 0
      · have hne : neg = false := by
          unfold mayI at hmi
          rw [hv] at hmi
          simpa using hmi
        refine Turned_1b neg V bits text aL nL cL aK nK cK how w hr (by rw [eqN4_zero o.v, decide_eq_true hv]) C1 C2 CT (flat 3 (!neg) bits text 1 (by decide) (by decide) o.b (by omega) (.inl ⟨rfl, right_mid ?_⟩))
        rw [hv, hne]
        simp [midB, mayI]
      · have hW : (VT.mk 3 (!neg) V bits text aL nL cL kids aK nK cK keys).right = true := by
          refine right_all ?_ ⟨rfl, rfl, q3, q4⟩ r3
          have hm2 : mayI (!neg) V = true := by unfold mayI; simp [hv]
          unfold midB at r1 ⊢
          simp only [hmi, hm2] at r1 ⊢
          exact r1
        refine Turned_1a neg V bits text aL nL cL aK nK cK how w hr (by rw [eqN4_zero o.v, decide_eq_false hv]) C1 C2 CT (flat 3 (!neg) bits text 0 (by decide) (by decide) o.b (by omega) (.inr ⟨rfl, hW⟩)) (Lib.hid fun wr hb => ?_)
        have h := PSame_any (VT.mk 3 neg V bits text aL nL cL kids aK nK cK keys) (VT.mk 3 (!neg) V bits text aL nL cL kids aK nK cK keys) wr (VT.In.below hb _ hin0) (VT.In.below hb _ ⟨⟨by decide, by decide, o.v, o.b, o.t, o.l, o.lc, o.n, o.nc⟩, hL, hk, hK⟩)
        have e : (VT.mk 3 neg V bits text aL nL cL kids aK nK cK keys).sameB (VT.mk 3 (!neg) V bits text aL nL cL kids aK nK cK keys) = false := by
          simp only [VT.sameB]
          have : ¬ neg = (!neg) := fun h => by cases neg <;> cases h
          simp [this]
        rwa [e] at h
    · refine Turned_1c kind neg V bits text aL nL cL aK nK cK how w hr (beq_false_of_ne h3) C1 C2 CT (flat kind (!neg) bits text 1 (by omega) (by omega) o.b (by omega) (.inl ⟨rfl, right_eq fun h => ?_⟩))
      have h1 := h.1
      unfold bareNeg at h1 q1
      rw [if_neg h3] at h1 q1
      rw [q1] at h1
      cases h1
  · by_cases h4 : kind = 4
    · subst h4
      refine Turned_2a neg V bits text aL nL cL aK nK cK how w hr C1 C2 CT (flat 4 neg 2 text 0 (by decide) (by decide) (by decide) (by omega) (.inr ⟨rfl, right_all ?_ ⟨q1, q2, rfl, q4⟩ r3⟩)) (Lib.hid fun wr _ => by
        have h := RMay_any 2 (by decide) wr
        rwa [mayF_two] at h)
      unfold midB at r1 ⊢
      simp at r1
      simp [mayF_two]
      exact r1.1
    · refine Turned_2b kind neg V bits text aL nL cL aK nK cK how w hr (beq_false_of_ne h4) C1 C2 CT (flat kind neg 2 text 1 (by omega) (by omega) (by decide) (by omega) (.inl ⟨rfl, right_eq fun h => ?_⟩))
      have h1 := h.2.2.1
      unfold bareB at h1
      rw [if_neg h4] at h1
      split at h1 <;> omega
  · by_cases h6 : kind = 6
    · subst h6
      refine Turned_3a neg V bits text aL nL cL aK nK cK how w hr C1 C2 CT (flat 6 neg bits ⟨#[255]⟩ 0 (by decide) (by decide) o.b (by decide) (.inr ⟨rfl, right_all ?_ ⟨q1, q2, q3, rfl⟩ r3⟩))
      unfold midB at r1 ⊢
      simp at r1 ⊢
      exact r1
    · refine Turned_3b kind neg V bits text aL nL cL aK nK cK how w hr (beq_false_of_ne h6) C1 C2 CT (flat kind neg bits ⟨#[255]⟩ 1 (by omega) (by omega) o.b (by decide) (.inl ⟨rfl, ?_⟩))
      by_cases h5 : kind = 5
      · subst h5
        refine right_mid ?_
        unfold midB
        rw [valid_ff]
        simp
      · refine right_eq fun h => ?_
        have h1 := h.2.2.2
        unfold bareT at h1
        rw [if_neg (by omega)] at h1
        have := congrArg ByteArray.size h1
        cases this
  · refine Turned_4 kind neg V bits text aL nL cL aK nK cK keys how w hr (Lib.hid hK) s2 C1 C2 CT (Lib.hid fun g c wr hb hc hg h1 h2 => ?_)
    have hkb : ∀ i, i < nK → keysB keys nK ⟨#[126, 126, 126, 126, 126, 126, 126, 126]⟩ i = keys i := fun i hi => by unfold keysB; rw [if_pos hi]
    have hkn : keysB keys nK ⟨#[126, 126, 126, 126, 126, 126, 126, 126]⟩ nK = ⟨#[126, 126, 126, 126, 126, 126, 126, 126]⟩ := by unfold keysB; rw [if_neg (by omega)]
    have hsz : ∀ i, i < nK + 1 → (keysB keys nK ⟨#[126, 126, 126, 126, 126, 126, 126, 126]⟩ i).size ≤ 4096 := fun i hi => by
      by_cases c : i < nK
      · rw [hkb i c]
        have := anyN_no l1 c
        simp only [decide_eq_false_iff_not] at this
        omega
      · rw [show i = nK by omega, hkn]
        decide
    have hi : (VT.mk kind neg V bits text aL nL cL kids (some ⟨g, 0, none⟩) (nK + 1) c (keysB keys nK ⟨#[126, 126, 126, 126, 126, 126, 126, 126]⟩)).In wr := by
      obtain ⟨-, hL', hk', -⟩ := VT.In.below hb _ hin0
      refine ⟨⟨o.k0, o.k1, o.v, o.b, o.t, o.l, o.lc, h1, h2⟩, hL', hk', .inr ⟨g, 0, rfl, hg, fun i hi => ⟨by rw [Nat.zero_add]; exact hc i hi, ?_⟩⟩⟩
      have := hsz i hi
      unfold maxLen
      omega
    have h := CW _ wr hb hi (by show _ < _; have : (VT.mk kind neg V bits text aL nL cL kids (some ⟨g, 0, none⟩) (nK + 1) c (keysB keys nK ⟨#[126, 126, 126, 126, 126, 126, 126, 126]⟩)).nodes = (VT.mk kind neg V bits text aL nL cL kids aK nK cK keys).nodes := rfl; omega)
    rwa [may_one (T := VT.mk kind neg V bits text aL nL cL kids (some ⟨g, 0, none⟩) (nK + 1) c (keysB keys nK ⟨#[126, 126, 126, 126, 126, 126, 126, 126]⟩)) m1 m2 (long_mk (by omega) (by omega) (by omega) (anyN_no0 fun i hi => decide_eq_false (by have := hsz i hi; omega)) l2) (right_mid (by
      unfold midB at r1 ⊢
      by_cases h7 : kind = 7
      · rw [if_pos h7]; simp
      · rw [if_neg h7] at r1 ⊢
        by_cases h8 : kind = 8
        · rw [if_pos h8] at r1 ⊢
          simp only [Bool.and_eq_true, beq_iff_eq] at r1
          have : (nK + 1 == nL) = false := beq_false_of_ne (by omega)
          rw [this]
          rfl
        · rw [if_neg h8]
          simp))] at h
  · have hlf : (leafT 1 false 0 0 ⟨#[]⟩).nodes = 1 := rfl
    have hnod : ∀ (kind : Int) (a : Option Addr) (c : Nat), (VT.mk kind neg V bits text a (nL + 1) c (kidsB kids nL (leafT 1 false 0 0 ⟨#[]⟩)) aK nK cK keys).nodes = (VT.mk kind neg V bits text aL nL cL kids aK nK cK keys).nodes + 1 := fun kind a c => by
      simp only [VT.nodes, sumN]
      rw [kidsB_new, hlf, sumN_same (g := fun i => (kids i).nodes) fun i hi => by rw [kidsB_old hi]]
    have hInW : ∀ (kind : Int), -9223372036854775808 ≤ kind → kind < 9223372036854775808 → ∀ (g c2 : Nat) (wr : World), Below w.heap.size w wr → (∀ i, i < nL + 1 → ∀ j, j < 10 → wr.cell? ⟨g, 0 + i * 10 + j, none⟩ = (kidsB kids nL (leafT 1 false 0 0 ⟨#[]⟩) i).cells[j]?) → g < wr.heap.size → nL + 1 ≤ c2 → c2 ≤ maxLen →
        (VT.mk kind neg V bits text (some ⟨g, 0, none⟩) (nL + 1) c2 (kidsB kids nL (leafT 1 false 0 0 ⟨#[]⟩)) aK nK cK keys).In wr := fun kind ka kb g c2 wr hb hc hg h1 h2 => by
      obtain ⟨-, -, hk', hK'⟩ := VT.In.below hb _ hin0
      refine ⟨⟨ka, kb, o.v, o.b, o.t, h1, h2, o.n, o.nc⟩, .inr ⟨g, 0, rfl, hg, fun i hi j hj => hc i hi j hj⟩, fun i hi => ?_, hK'⟩
      by_cases c : i < nL
      · rw [kidsB_old c]; exact hk' i c
      · rw [show i = nL by omega, kidsB_new]; exact leaf_in wr (by decide) (by decide) (by decide) (by decide) (by decide)
    by_cases h7 : kind = 7
    · subst h7
      refine Turned_5a neg V bits text aL nL cL aK nK cK kids how w hr _ hn (Lib.hid hL) (Lib.hid hk) s1 C1 C2 CT (Lib.hid fun g c2 wr hb hc hg h1 h2 => ?_) (Lib.hid fun wr hb => Nodes_any _ wr (hin0.below hb) (by omega))
      have h := Nodes_any _ wr (hInW 7 (by decide) (by decide) g c2 wr hb hc hg h1 h2) (by rw [hnod]; omega)
      rwa [hnod] at h
    · refine Turned_5b kind neg V bits text aL nL cL aK nK cK kids how w hr (beq_false_of_ne h7) (Lib.hid hL) (Lib.hid hk) s1 C1 C2 CT (Lib.hid fun g c2 wr hb hc hg h1 h2 => ?_)
      have h := CW _ wr hb (hInW kind o.k0 o.k1 g c2 wr hb hc hg h1 h2) (by rw [hnod]; omega)
      have hdep : (VT.mk kind neg V bits text (some ⟨g, 0, none⟩) (nL + 1) c2 (kidsB kids nL (leafT 1 false 0 0 ⟨#[]⟩)) aK nK cK keys).depth ≤ 16 := by
        simp only [VT.depth, maxN] at m1 ⊢
        rw [kidsB_new, maxN_same (g := fun i => (kids i).depth) fun i hi => by rw [kidsB_old hi]]
        have : (leafT 1 false 0 0 ⟨#[]⟩).depth = 1 := rfl
        omega
      have hlon : (VT.mk kind neg V bits text (some ⟨g, 0, none⟩) (nL + 1) c2 (kidsB kids nL (leafT 1 false 0 0 ⟨#[]⟩)) aK nK cK keys).long = false := by
        refine long_mk (by omega) (by omega) (by omega) l1 ?_
        refine anyN_no0 fun i hi => ?_
        by_cases c : i < nL
        · rw [kidsB_old c]; exact anyN_no l2 c
        · rw [show i = nL by omega, kidsB_new]; rfl
      rwa [may_one hdep (by rw [hnod]; omega) hlon (right_mid (by
        unfold midB at r1 ⊢
        rw [if_neg h7] at r1 ⊢
        by_cases h8 : kind = 8
        · rw [if_pos h8] at r1 ⊢
          simp only [Bool.and_eq_true, beq_iff_eq] at r1
          have : (nK == nL + 1) = false := beq_false_of_ne (by omega)
          rw [this]
          rfl
        · rw [if_neg h8]
          simp))] at h
end Go.Proofs.YtminijokbeclhaaDoor
