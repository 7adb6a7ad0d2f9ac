/- A great region that draws its order, whose operations keep a class of worlds: the order's check in a form that the kernel reckons quickly. -/
import Derived.Deep.QuietTactic
import Derived.StillTail
import Derived.BigQuiet
namespace Go.Proofs.YtekeedjhaakbhaaGreatDoor
open Go
/-- what the check looks at in an operation: its slot, the slots that it looks at, the operations that it waits for -/
def sgO (D : List (Option Nat)) (o : Oper) : Option Nat × List Nat × List Nat :=
  (o.dst, (o.op.operands.toList.filterMap fun | .tmp t => some t | _ => none) ++ (match o.guard with | some (g, _) => ((D[g]?).getD none).toList | none => []), (o.after.toList.filter fun e => Region.binds .any e).map fun e => e.on)
def apartS (x y : Option Nat × List Nat × List Nat) : Bool :=
  (match x.1 with | some d => !y.2.1.contains d && y.1 != some d | none => true) && (match y.1 with | some d => !x.2.1.contains d | none => true)
def pairsB : Nat → List (Option Nat × List Nat × List Nat) → Bool
  | _, [] => true
  | k, x :: r => x.2.2.all (fun i => Nat.blt i k) && r.all (fun y => y.2.2.contains k || apartS x y) && pairsB (k + 1) r
def lexC (l : List Oper) : Bool := Region.noSelect l.toArray && pairsB 0 (l.map (sgO (l.map fun o => o.dst)))
theorem looks_sg (l : List Oper) (o : Oper) : o.looksAt l.toArray = (sgO (l.map fun o => o.dst) o).2.1 := by
  unfold Oper.looksAt sgO
  cases o.guard with
  | none => rfl
  | some g =>
    obtain ⟨g, b⟩ := g
    simp only [List.getElem?_map, List.getElem?_toArray]
    cases l[g]? <;> rfl
theorem apart_sg (l : List Oper) (x y : Oper) (h : apartS (sgO (l.map fun o => o.dst) x) (sgO (l.map fun o => o.dst) y) = true) : x.apart l.toArray y = true := by
  unfold Oper.apart
  rw [looks_sg, looks_sg]
  exact h
theorem waits_sg (D : List (Option Nat)) (o : Oper) (k : Nat) (h : (sgO D o).2.2.contains k = true) : ∃ e ∈ o.after, Region.binds .any e = true ∧ e.on = k := by
  simp only [sgO, List.contains_iff_mem, List.mem_map, List.mem_filter] at h
  obtain ⟨e, ⟨h1, h2⟩, h3⟩ := h
  exact ⟨e, Array.mem_toList_iff.1 h1, h2, h3⟩
section
variable {P : Program} {C : World → Prop}
theorem wpAnyQ_lexC {l : List Oper} {Q : Act → Prop} (hs : Region.noSelect l.toArray = true) (r : List Oper) :
    ∀ (k : Nat) (listed : Array Bool) (a : Act), (∀ j, r[j]? = l[k + j]?) → listed.size = l.length → (∀ j, listed.getD j true = true ↔ (j < k ∨ l.length ≤ j)) →
      pairsB k (r.map (sgO (l.map fun o => o.dst))) = true → wpQuiet P l.toArray C Q r a → wpAnyQ P .any l.toArray C Q r.length listed a := by
  induction r with
  | nil =>
    intro k listed a hr hsz hd _ h
    have hk : l.length ≤ k := by
      have h1 := hr 0
      rw [Nat.add_zero] at h1
      exact List.getElem?_eq_none_iff.1 h1.symm
    refine ⟨List.eq_nil_iff_forall_not_mem.2 fun j hj => ?_, h⟩
    have h1 := (mem_ready.1 hj).1
    have h2 : listed.getD j true = true := (hd j).2 (by omega)
    rw [h2] at h1
    cases h1
  | cons o r ih =>
    intro k listed a hr hsz hd hB h
    have h0 : l.toArray[k]? = some o := by
      have h1 := hr 0
      rw [Nat.add_zero] at h1
      rw [List.getElem?_toArray]
      exact h1.symm
    have hkl : k < l.length := by
      rw [List.getElem?_toArray] at h0
      exact (List.getElem?_eq_some_iff.1 h0).1
    simp only [List.map_cons, pairsB, Bool.and_eq_true] at hB
    obtain ⟨⟨hB1, hB2⟩, hB3⟩ := hB
    have hun : listed.getD k true = false := by
      rw [← Bool.not_eq_true]
      intro h1
      have := (hd k).1 h1
      omega
    have hin : ∀ i, i < k → listed.getD i false = true := by
      intro i hi
      cases h1 : listed.getD i false with
      | true => rfl
      | false =>
        have h2 := getD_in (by omega) h1
        have h3 := (hd i).2 (.inl hi)
        rw [h2] at h3
        cases h3
    have hrd : k ∈ Region.ready .any l.toArray listed := by
      refine mem_ready.2 ⟨hun, o, h0, fun e he hb => hin _ ?_⟩
      have h1 := List.all_eq_true.1 hB1 e.on (by
        simp only [sgO, List.mem_map, List.mem_filter]
        exact ⟨e, ⟨Array.mem_toList_iff.2 he, hb⟩, rfl⟩)
      exact (Nat.blt_eq ▸ h1 : e.on < k)
    have hst : qOp P l.toArray C k (wpQuiet P l.toArray C Q r) a := by unfold qOp; simp only [h0]; exact h
    obtain ⟨v, hy, hK⟩ := yieldsIn_of_qOp h0 hst
    refine wpAnyQ_first h0 (Region.noSelect_spec hs) r.length listed a (fun j oj hoj hne hju hno => ?_) hrd hy ?_
    · have hjk : k < j := by
        apply Nat.lt_of_not_le
        intro hle
        have h3 := (hd j).2 (.inl (by omega))
        rw [hju] at h3
        cases h3
      have hmem : oj ∈ r := by
        have h1 := hr (j - k)
        rw [List.getElem?_toArray] at hoj
        rw [show k + (j - k) = j from by omega, hoj, show j - k = (j - k - 1) + 1 from by omega, List.getElem?_cons_succ] at h1
        exact List.mem_of_getElem? h1
      have h2 := List.all_eq_true.1 hB2 _ (List.mem_map_of_mem hmem)
      rw [Bool.or_eq_true] at h2
      rcases h2 with h2 | h2
      · obtain ⟨e, he, hb, hon⟩ := waits_sg _ _ _ h2
        exact absurd hon (hno e he hb)
      · exact apart_sg l o oj h2
    · refine ih (k + 1) _ _ (fun j => ?_) (by rw [Array.size_setIfInBounds]; exact hsz) (fun j => ?_) hB3 hK
      · have h1 := hr (j + 1)
        rw [List.getElem?_cons_succ] at h1
        rw [h1, show k + 1 + j = k + (j + 1) from by omega]
      · by_cases c : k = j
        · subst c
          constructor
          · intro _
            omega
          · intro _
            have hks : k < listed.size := by omega
            simp [hks]
        · rw [getD_set_ne true c, hd j]
          omega
end
/-- **A region whose operations only read in a class of worlds, which its calls keep.** -/
theorem wp_region_quiet_great {P : Program} {C : World → Prop} {id : Nat} {Q : Exit → Act → World → Prop} {a : Act} {w : World} {l : List Oper} (hm : P.follows .mixedOrders = true) (hB : lexC l = true) (hC : C w.drew)
    (h : wpQuiet P l.toArray C (fun a' => ∀ w', C w' → Q .normal a' w') l a) : (Code.region id l.toArray true).wp P Q a w := by
  simp only [lexC, Bool.and_eq_true] at hB
  refine wp_region_any hm (wpAny_of_quiet (Q := fun a' => ∀ w', C w' → Q .normal a' w') (fun _ w' hw' h => h w' hw') _ _ _ _ hC ?_)
  have H := wpAnyQ_lexC (C := C) (Q := fun a' => ∀ w', C w' → Q .normal a' w') hB.1 l 0 (Array.replicate l.toArray.size false) a (fun j => by rw [Nat.zero_add]) (by simp) (fun j => by
    by_cases c : j < l.length
    · simp [c]
    · simp [c]
      omega) hB.2 h
  simpa using H
end Go.Proofs.YtekeedjhaakbhaaGreatDoor
