/- A region that draws its order: operations that keep a class of worlds (reads, calls that make memory of their own), then operations that yield their value in every world, then a tail in a forced order. -/
import Derived.StillTail
import Derived.Deep.QuietTactic
import Derived.BigQuiet
import Derived.Deep.RegionHeld3
namespace Go.Proofs.YtekeedjhaakbhaaGreatDoor
open Go
section
variable {P : Program} {ops : Array Oper} {C : World → Prop} {n : Nat}
/-- operation n - 1 waits for all of the head, and each later one for it, or for a later one -/
def sinkAt (ops : Array Oper) (n : Nat) : Bool :=
  decide (0 < n) && Region.sinkB .any ops (n - 1) && (List.range ops.size).all fun t => decide (t < n) || (List.range t).any fun j => decide (n ≤ j + 1) && Region.waitsFor .any ops t j
/-- while the head is not done, nothing behind it comes up -/
theorem head_waits {done : Array Bool} (hs : sinkAt ops n = true) (hn : n < ops.size) (inv : HeadInv .any ops n done) {i : Nat} (hin : i < n) (hun : done.getD i true = false) (t : Nat) : n ≤ t → t ∉ Region.ready .any ops done := by
  simp only [sinkAt, Bool.and_eq_true, decide_eq_true_eq] at hs
  obtain ⟨⟨hn0, h1⟩, h2⟩ := hs
  have hlast : done.getD (n - 1) false = false := by
    have key : ∀ d k, n - k = d → k < n → done.getD k true = false → done.getD (n - 1) false = false := by
      intro d
      induction d using Nat.strongRecOn with
      | _ d ih =>
        intro k hd hk hku
        by_cases e : k = n - 1
        · subst e
          exact getD_both hku
        · have h3 := List.all_eq_true.1 h1 k (List.mem_range.2 (by omega))
          obtain ⟨j, hj, hj2⟩ := List.any_eq_true.1 h3
          simp only [Bool.and_eq_true, decide_eq_true_eq] at hj2
          have hjn := List.mem_range.1 hj
          obtain ⟨oj, hoj, e, he, hb, hon⟩ := Region.waitsFor_spec hj2.2
          have hju : done.getD j false = false := by
            cases h4 : done.getD j false with
            | false => rfl
            | true =>
              have h5 := inv.closed j oj hoj h4 e he hb
              rw [hon, getD_both hku] at h5
              cases h5
          exact ih (n - j) (by omega) j rfl (by omega) (getD_in (by rw [inv.size]; omega) hju)
    exact key _ i rfl hin hun
  intro ht hr
  obtain ⟨_, ot, hot, hall⟩ := mem_ready.1 hr
  have htl : t < ops.size := (Array.getElem?_eq_some_iff.1 hot).1
  have h3 := List.all_eq_true.1 h2 t (List.mem_range.2 htl)
  simp only [Bool.or_eq_true, decide_eq_true_eq] at h3
  rcases h3 with h3 | h3
  · omega
  obtain ⟨j, hj, hj2⟩ := List.any_eq_true.1 h3
  simp only [Bool.and_eq_true, decide_eq_true_eq] at hj2
  have hjt := List.mem_range.1 hj
  obtain ⟨o', ho', e, he, hb, hon⟩ := Region.waitsFor_spec hj2.2
  have : o' = ot := Option.some.inj (ho'.symm.trans hot)
  subst this
  have h4 := hall e he hb
  rw [hon] at h4
  by_cases c : j = n - 1
  · rw [c, hlast] at h4
    cases h4
  · rw [getD_both (inv.tail j (by omega) (by omega))] at h4
    cases h4
/-- f operations of the head come up, in any order, each quiet in the class; behind them T -/
def headQ (P : Program) (ops : Array Oper) (C : World → Prop) (n : Nat) (T : Array Bool → Act → Prop) : Nat → Array Bool → Act → Prop
  | 0, done, a => T done a
  | f + 1, done, a => Region.ready .any ops done ≠ [] ∧ ∀ i ∈ Region.ready .any ops done, i < n ∧ qOp P ops C i (headQ P ops C n T f (done.setIfInBounds i true)) a
theorem headQ_any {g : Nat} {T : Array Bool → Act → Prop} {Q : Exit → Act → World → Prop} (hT : ∀ done a w, C w → T done a → wpAny P .any ops Q g done a w) (f : Nat) :
    ∀ (done : Array Bool) (a : Act) (w : World), C w → headQ P ops C n T f done a → wpAny P .any ops Q (f + g) done a w := by
  induction f with
  | zero =>
    intro done a w hw h
    rw [Nat.zero_add]
    exact hT _ _ _ hw h
  | succ f ih =>
    intro done a w hw h
    rw [Nat.add_right_comm]
    refine ⟨fun h0 => absurd h0 h.1, fun i hi => ?_⟩
    exact wpOp_of_qOp hw (fun a' w' hw' h' => ih _ a' w' hw' h') (h.2 i hi).2
theorem headQ_take {T : Array Bool → Act → Prop} (hsel : ∀ (j : Nat) (o : Oper) cs b, ops[j]? = some o → o.op ≠ .select cs b) (hs : sinkAt ops n = true) (hn : n < ops.size)
    {i : Nat} {oi : Oper} {v : Value} (hi : ops[i]? = some oi) (hin : i < n) (hT : ∀ done a, T done a → ∀ j ∈ Region.ready .any ops done, n ≤ j) (f : Nat) :
    ∀ (done : Array Bool) (a : Act), HeadInv .any ops n done →
      (∀ j oj, ops[j]? = some oj → j ≠ i → done.getD j true = false → (∀ e ∈ oj.after, Region.binds .any e = true → e.on ≠ i) → oi.apart ops oj = true) →
      i ∈ Region.ready .any ops done → YieldsIn P ops C oi v a → headQ P ops C n T f (done.setIfInBounds i true) (a.put oi.dst v) → headQ P ops C n T (f + 1) done a := by
  induction f with
  | zero =>
    intro done a inv _ hr hy H
    have hun := (mem_ready.1 hr).1
    refine ⟨fun h => absurd hr (h ▸ List.not_mem_nil), fun j hj => ?_⟩
    have hjn : j < n := Nat.lt_of_not_le fun h => head_waits hs hn inv hin hun j h hj
    by_cases c : j = i
    · subst c
      exact ⟨hjn, hy.qOp hi H⟩
    · exact absurd (hT _ _ H j (ready_mono hj c)) (by omega)
  | succ f ih =>
    intro done a inv hfree hr hy H
    have hun := (mem_ready.1 hr).1
    refine ⟨fun h => absurd hr (h ▸ List.not_mem_nil), fun j hj => ?_⟩
    have hjn : j < n := Nat.lt_of_not_le fun h => head_waits hs hn inv hin hun j h hj
    by_cases c : j = i
    · subst c
      exact ⟨hjn, hy.qOp hi H⟩
    · obtain ⟨hjun, oj, hoj, hall⟩ := mem_ready.1 hj
      have hno : ∀ e ∈ oj.after, Region.binds .any e = true → e.on ≠ i := by
        intro e he hb h
        have h1 := hall e he hb
        rw [h, getD_both hun] at h1
        exact Bool.noConfusion h1
      have h2 := qOp_put hoj (hfree j oj hoj c hjun hno) (fun cs b => hsel i oi cs b hi) (fun cs b => hsel j oj cs b hoj) hy (H.2 j (ready_mono hj c)).2
      refine ⟨hjn, qOp_mono (fun a' h3 => ih (done.setIfInBounds j true) a' (inv.set hj hjn) ?_ (ready_mono hr (Ne.symm c)) h3.1 ?_) h2⟩
      · intro k ok hk hki hkun hkno
        refine hfree k ok hk hki ?_ hkno
        by_cases d : j = k
        · subst d
          exact hjun
        · rw [getD_set_ne true d] at hkun
          exact hkun
      · rw [Array.setIfInBounds_comm _ _ c]
        exact h3.2
/-- the head in lexical order, then m operations that may be taken first, then g in a forced order -/
def headB (ops : Array Oper) (n m g : Nat) : Nat → Nat → Array Bool → Bool
  | 0, k, done => (Region.ready .any ops done).all (fun j => decide (n ≤ j)) && Region.lexHead .any ops g m k done
  | f + 1, k, done => (Region.ready .any ops done).contains k && Region.free .any ops done k && headB ops n m g f (k + 1) (done.setIfInBounds k true)
theorem headQ_lex {g m : Nat} {T : Act → Prop} (hsel : Region.noSelect ops = true) (hs : sinkAt ops n = true) (hn : n < ops.size) (l : List Oper) :
    ∀ (k : Nat) (done : Array Bool) (a : Act), (∀ j, j < l.length → l[j]? = ops[k + j]?) → k + l.length = n → HeadInv .any ops n done →
      headB ops n m g l.length k done = true → wpQuiet P ops C T l a → headQ P ops C n (fun done' a' => ((Region.ready .any ops done').all (fun j => decide (n ≤ j)) = true ∧ Region.lexHead .any ops g m n done' = true) ∧ T a') l.length done a := by
  induction l with
  | nil =>
    intro k done a _ hk _ hB h
    have hkn : k = n := by simpa using hk
    subst hkn
    exact ⟨by simpa only [headB, List.length_nil, Bool.and_eq_true] using hB, h⟩
  | cons o l ih =>
    intro k done a hl hk inv hB h
    rw [List.length_cons] at hk
    have h0 : ops[k]? = some o := (hl 0 (Nat.succ_pos _)).symm
    simp only [List.length_cons, headB, Bool.and_eq_true] at hB
    have hkn : k < n := by omega
    have hr : k ∈ Region.ready .any ops done := by simpa using hB.1.1
    obtain ⟨v, hy, hK⟩ := yieldsIn_of_qOp (K := wpQuiet P ops C T l) (C := C) (P := P) h0 (by unfold qOp; simp only [h0]; exact h)
    refine headQ_take (Region.noSelect_spec hsel) hs hn h0 hkn (fun done' a' hL j hj => by simpa using List.all_eq_true.1 hL.1.1 j hj) l.length done a inv (Region.free_spec h0 hB.1.2) hr hy ?_
    exact ih (k + 1) _ _ (fun j hj => by rw [Nat.add_right_comm k 1 j]; exact hl (j + 1) (Nat.succ_lt_succ hj)) (by omega) (inv.set hr hkn) hB.2 hK
/-- operations that yield their value in every world, in lexical order -/
def wpPure (P : Program) (ops : Array Oper) (T : Act → Prop) : List Oper → Act → Prop
  | [], a => T a
  | o :: l, a => ∃ v, Yields P ops o v a ∧ wpPure P ops T l (a.put o.dst v)
theorem wpPure_nil {T : Act → Prop} {a : Act} (h : T a) : wpPure P ops T [] a := h
theorem wpAny_pure {Q : Exit → Act → World → Prop} {w : World} {g : Nat} (hsel : Region.noSelect ops = true) (hQ : ∀ c a a' w, Q (.panic c) a w → Q (.panic c) a' w) (tl : List Oper) (hg : tl.length = g) (l : List Oper) :
    ∀ (k : Nat) (done : Array Bool) (a : Act), (∀ j, (l ++ tl)[j]? = ops[k + j]?) → Region.lexHead .any ops g l.length k done = true → wpPure P ops (fun a' => wpList P ops Q tl a' w) l a → wpAny P .any ops Q (l.length + g) done a w := by
  subst hg
  induction l with
  | nil =>
    intro k done a hl hB h
    rw [List.length_nil, Nat.zero_add]
    exact wpAny_of_seq tl k done a w hl hB h
  | cons o l ih =>
    intro k done a hl hB h
    obtain ⟨v, hy, hK⟩ := h
    simp only [List.length_cons, Region.lexHead, Bool.and_eq_true] at hB
    rw [List.length_cons, Nat.add_right_comm]
    have h0 : ops[k]? = some o := by simpa using (hl 0).symm
    refine wpAny_take h0 hsel hB.1.2 hB.1.1 (fun c a w => hQ c _ _ w) hy ?_
    exact ih (k + 1) _ _ (fun j => by rw [show k + 1 + j = k + (j + 1) from by omega]; simpa using hl (j + 1)) hB.2 hK
end
/-- what the kernel looks at -/
def tailB (ops : Array Oper) (n m : Nat) : Bool :=
  Region.noSelect ops && decide (n + m ≤ ops.size) && decide (n < ops.size) && sinkAt ops n && headB ops n m (ops.size - (n + m)) n 0 (Array.replicate ops.size false)
/-- **One walk of the head's lexical order serves all of its orders; what is left is asked of every world of the class.** -/
theorem wp_region_quiet_tail {P : Program} {C : World → Prop} {id : Nat} {Q : Exit → Act → World → Prop} {a : Act} {w : World} {l : List Oper} (n m : Nat) (hm : P.follows .mixedOrders = true) (hB : tailB l.toArray n m = true) (hC : C w.drew)
    (h : wpQuiet P l.toArray C (fun a' => ∀ w', C w' → wpPure P l.toArray (fun a'' => wpList P l.toArray (NoPanic Q) (l.drop (n + m)) a'' w') ((l.drop n).take m) a') (l.take n) a) : (Code.region id l.toArray true).wp P Q a w := by
  refine wp_region_noPanic ?_
  simp only [tailB, Bool.and_eq_true, decide_eq_true_eq] at hB
  obtain ⟨⟨⟨⟨hsel, hnm⟩, hn⟩, hs⟩, hlex⟩ := hB
  have hnl : n < l.length := by simpa using hn
  have hnml : n + m ≤ l.length := by simpa using hnm
  have htl : (l.take n).length = n := by rw [List.length_take]; omega
  have hml : ((l.drop n).take m).length = m := by rw [List.length_take, List.length_drop]; omega
  have hdl : (l.drop (n + m)).length = l.toArray.size - (n + m) := by simp
  have inv0 : HeadInv .any l.toArray n (Array.replicate l.toArray.size false) := by
    refine ⟨by simp, fun j oj _ hl => ?_, fun t _ ht => getD_in (by simpa using ht) (getD_replicate_false _ _)⟩
    rw [getD_replicate_false] at hl
    exact Bool.noConfusion hl
  have H := headQ_lex (g := l.toArray.size - (n + m)) (m := m) hsel hs hn (l.take n) 0 _ a (fun j hj => by
    have hj' : j < n := by rw [htl] at hj; exact hj
    simp [hj']) (by rw [htl, Nat.zero_add]) inv0 (by rw [htl]; exact hlex) h
  refine wp_region_any hm ?_
  have R := headQ_any (Q := NoPanic Q) (g := m + (l.toArray.size - (n + m))) (fun done a' w' hw' hL => by
    have s := wpAny_pure (Q := NoPanic Q) (w := w') hsel (fun _ _ _ _ h => h) (l.drop (n + m)) hdl ((l.drop n).take m) n done a' (fun j => by
      have e : (l.drop n).take m ++ l.drop (n + m) = l.drop n := by rw [← List.drop_drop, List.take_append_drop]
      rw [e, List.getElem?_drop]
      simp) (by rw [hml]; exact hL.1.2) (hL.2 w' hw')
    rwa [hml] at s) _ _ _ _ hC H
  have e : n + (m + (l.toArray.size - (n + m))) = l.toArray.size := by omega
  rw [htl, e] at R
  exact R
end Go.Proofs.YtekeedjhaakbhaaGreatDoor
