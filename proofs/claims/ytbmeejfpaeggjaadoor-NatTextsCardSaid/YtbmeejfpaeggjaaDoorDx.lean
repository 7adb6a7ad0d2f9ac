/- Contracts of the document's digits: Print. -/
import Derived.Test.YtbmeejfpaeggjaaDoorDw
import Derived.Test.YtbmeejfpaeggjaaDoorPrN
namespace Go.Proofs.YtbmeejfpaeggjaaDoor
open Go.RowKit Go.Sort
theorem dec_snoc {V : Nat} (h : 0 < V / 10) : Lib.decDigits V = Lib.decDigits (V / 10) ++ [UInt8.ofNat (48 + V % 10)] := by
  have : ¬ V < 10 := by omega
  rw [Lib.decDigits, dif_neg this]
theorem dec_last {V : Nat} (h : V / 10 = 0) : Lib.decDigits V = [UInt8.ofNat (48 + V % 10)] := by
  have h1 : V < 10 := by omega
  rw [Lib.decDigits_one h1, Nat.mod_eq_of_lt h1]
/-- one byte as a text -/
theorem byte_text (r : Nat) (hr : r < 10) (W : World) : (convert 71 9 (.slice (some ⟨W.heap.size, 0, none⟩) 1 1)).run Tryd.prog (W.alloc (.cells #[.int .u8 (48 + (r : Int))] 5)) = .ok (.string ⟨#[UInt8.ofNat (48 + r)]⟩) (W.alloc (.cells #[.int .u8 (48 + (r : Int))] 5)) := by
  have h := run_convert_bytes_back (P := Tryd.prog) (W.alloc (.cells #[.int .u8 (48 + (r : Int))] 5)) 71 9 5 ⟨W.heap.size, 0, none⟩ 1 [UInt8.ofNat (48 + r)] Tryd.underlying71 Tryd.underlying5 Tryd.underlying9 (fun j hj => by
    have hj0 : j = 0 := by simpa using hj
    subst hj0
    simp [go_sem, Addr.add]
    omega)
  exact h
set_option maxRecDepth 20000 in
set_option maxHeartbeats 400000 in
theorem DPrint_zero (v : Value) (w : World) (h : IsD w v 0) :
    Calls Tryd.prog 21 #[v] w fun e w' => e = .returned (.string ⟨#[48]⟩) ∧ Below w.heap.size w w' := by
  have H := Lib.hid h
  clear h
  go_enter Tryd.func21, Tryd.ntmps21
  go_upto_region 1 with fail
  repeat any_goals (first | (go_at_call 42; refine (trim_any _ _ _ _ H.out).mono ?_; rintro e w' ⟨⟨u, rfl, hu⟩, rfl⟩; obtain ⟨_, _, ao, cap, rfl, _⟩ := hu) | go_skip | go_guarded | go_step | go_upon | (dsimp only []))
  exact bodyPost_ret (v := .string ⟨#[48]⟩) (by simp [results, Tryd.results21, go_sem]) rfl ⟨rfl, Below.refl _ _⟩
set_option maxRecDepth 20000 in
set_option maxHeartbeats 1600000 in
theorem DPrint_walk (v : Value) (A : Nat) (w : World) (h : IsD w v A) (hA0 : 0 < A) (hA : A < 2 ^ 256) :
    Calls Tryd.prog 21 #[v] w fun e w' => e = .returned (.string (decS A)) ∧ Below w.heap.size w w' := by
  have hlA : (Lib.decDigits A).length ≤ 78 := decDigits_len_le (k := 77) (Nat.lt_of_lt_of_le hA (by decide))
  obtain ⟨R, hR⟩ : ∃ R, R = decS A := ⟨_, rfl⟩
  rw [← hR]
  have H := Lib.hid (And.intro h (And.intro hA (And.intro hlA hR)))
  have hdA := dl_pos hA0
  clear h hA hlA hR
  go_enter Tryd.func21, Tryd.ntmps21
  go_upto_region 3 with (first | (go_at_call 42; refine (trim_any _ _ _ _ H.out.1).mono ?_; rintro e w' ⟨⟨u, rfl, hu⟩, rfl⟩; obtain ⟨_, _, ao, cap, rfl, _⟩ := hu))
  repeat any_goals (first | go_skip | go_guarded | go_step | go_upon | (simp only []; done))
  go_loopw [0, 3] (fun u t wr => ∃ (T : ByteArray) (V : Nat), t = .string T ∧ V < 2 ^ 256 ∧ IsD wr u V ∧ ((0 < V ∧ Lib.decDigits A = Lib.decDigits V ++ T.data.toList) ∨ (V = 0 ∧ Lib.decDigits A = T.data.toList)) ∧ Below w.heap.size w wr) (fun _ t _ => 100 - sizeOfS t)
  case atStart =>
    exact ⟨⟨#[]⟩, A, rfl, H.out.2.1, H.out.1, .inl ⟨hA0, by simp⟩, Below.refl _ _⟩
  case round =>
    obtain ⟨T, V, rfl, hV, hu, hdg, hW⟩ := hrel
    have UH := Lib.hid hu
    obtain ⟨_, _, ao, cap, rfl, _⟩ := hu
    obtain ⟨n, hn⟩ : ∃ n, n = dl V := ⟨_, rfl⟩
    rw [← hn]
    obtain ⟨K, hK⟩ : ∃ K, T.size = K := ⟨_, rfl⟩
    rcases hdg with ⟨hV0, hdg⟩ | ⟨hV0, hdg⟩
    · have hn0 : 0 < (n : Int) := by
        have := dl_pos hV0
        omega
      have hKL : K ≤ 77 := by
        have h1 := congrArg List.length hdg
        have h2 := decDigits_pos V
        have h3 := H.out.2.2.1
        rw [List.length_append, show T.data.toList.length = K from Array.length_toList.trans hK] at h1
        omega
      have LH := Lib.hid (fun W h => LessI_any (.slice ao n cap) V 10 W h hV0 (Nat.le_trans (dl8 hV) (by decide)) (by decide) (by decide))
      obtain ⟨q, hq⟩ : ∃ q, q = V / 10 := ⟨_, rfl⟩
      obtain ⟨r, hr⟩ : ∃ r, r = V % 10 := ⟨_, rfl⟩
      have hr10 : r < 10 := by omega
      have hri : (r : Int) < 10 := by omega
      have L2 : Hid (Calls Tryd.prog 46 #[.slice ao n cap, .int .u32 10] wr fun e w' => ∃ v, e = .returned (.tuple #[v, .int .u32 (r : Int)]) ∧ IsD w' v q ∧ Below wr.heap.size wr w') := Lib.hid (by
        have h := LH.out wr (by rw [hn]; exact UH.out)
        rw [← hq, ← hr] at h
        exact h)
      have BT := byte_text r hr10
      obtain ⟨ch, hch⟩ : ∃ ch : ByteArray, ch = ⟨#[UInt8.ofNat (48 + r)]⟩ := ⟨_, rfl⟩
      rw [← hch] at BT
      have hcs : ch.size = 1 := by rw [hch]; rfl
      have hsz : ¬ 9223372036854775807 < 1 + K := by omega
      have hcz : (ch ++ T).size = 1 + K := by rw [ByteArray.size_append, hcs, hK]
      have hcl : (ch ++ T).data.toList = [UInt8.ofNat (48 + r)] ++ T.data.toList := by
        rw [hch]
        simp
      have hnew : (0 < q ∧ Lib.decDigits A = Lib.decDigits q ++ (ch ++ T).data.toList) ∨ (q = 0 ∧ Lib.decDigits A = (ch ++ T).data.toList) := by
        rw [hcl]
        by_cases c : q = 0
        · refine .inr ⟨c, ?_⟩
          rw [hdg, dec_last (by omega), ← hr]
        · refine .inl ⟨by omega, ?_⟩
          rw [hdg, dec_snoc (by omega), ← hq, ← hr, List.append_assoc]
      have NH := Lib.hid (And.intro hnew (show q < 2 ^ 256 by omega))
      clear hnew hcl hch hdg hq hr hV hn LH
      repeat any_goals (first | (go_at_call 46; with_reducible refine L2.out.mono ?_; rintro e w2 ⟨v2, rfl, hv2, hb2⟩; have bt := BT w2) | go_skip | go_guarded | go_step | go_upon | (dsimp only []))
      refine ⟨⟨ch ++ T, q, rfl, NH.out.2, hv2.alloc _, NH.out.1, by (repeat first | with_reducible exact Below.refl _ _ | with_reducible assumption | with_reducible refine Below.drew ?_ | with_reducible refine below_alloc ?_ _ | ((with_reducible refine Below.setCell ?_ ?_ _); rotate_left; (focus (first | with_reducible exact Nat.le_refl _ | (simp; done) | (simp; omega) | omega))) | (with_reducible refine below_trans ?_ (by assumption)))⟩, ?_⟩
      simp [sizeOfS, hcz, hK]
      omega
    · have hn0 : n = 0 := by rw [hn, hV0]; exact dl_zero
      have hR : R = T := by
        rw [H.out.2.2.2]
        unfold decS
        rw [hdg]
      subst hn0 hR
      clear hn hdg
      repeat any_goals (first | go_skip | go_guarded | go_step | go_upon | (simp only []; done))
      exact bodyPost_ret (v := .string R) (by simp [results, Tryd.results21, go_sem]) rfl ⟨rfl, hW⟩
/-- **Print.** -/
theorem DPrint_any (v : Value) (A : Nat) (w : World) (h : IsD w v A) (hA : A < 2 ^ 256) :
    Calls Tryd.prog 21 #[v] w fun e w' => e = .returned (.string (decS A)) ∧ Below w.heap.size w w' := by
  by_cases c : A = 0
  · subst c
    rw [show decS 0 = ⟨#[48]⟩ from by unfold decS; rw [Lib.decDigits_one (by decide)]; rfl]
    exact DPrint_zero v w h
  · exact DPrint_walk v A w h (by omega) hA
end Go.Proofs.YtbmeejfpaeggjaaDoor
