/- Proofs that many places share. -/
import Derived.WalkKit
import Derived.ProofKit
import Derived.Handy
namespace Go
theorem zb1 {p : Prop} (h : p := by (repeat first | with_reducible exact Below.refl _ _ | with_reducible assumption | with_reducible refine Below.drew ?_ | ((with_reducible refine Below.alloc ?_ ?_ _); rotate_left; (focus (first | with_reducible exact Nat.le_refl _ | (simp; done) | (simp; omega) | omega))) | ((with_reducible refine Below.setCell ?_ ?_ _); rotate_left; (focus (first | with_reducible exact Nat.le_refl _ | (simp; done) | (simp; omega) | omega))) | ((with_reducible refine Below.trans ?_ (Below.mono (by assumption) ?_)); rotate_left; (focus (first | with_reducible exact Nat.le_refl _ | (simp; done) | (simp; omega) | omega))))) : p := h
theorem zb2 {p : Prop} (h : p := by (repeat first | with_reducible exact Below.refl _ _ | with_reducible assumption | with_reducible refine Below.drew ?_ | with_reducible refine below_alloc ?_ _ | ((with_reducible refine Below.setCell ?_ ?_ _); rotate_left; (focus (first | with_reducible exact Nat.le_refl _ | (simp; done) | (simp; omega) | omega))) | (with_reducible refine below_trans ?_ (by assumption)))) : p := h
theorem z0a {p : Prop} (h : p := by kernel_rfl) : p := h
theorem z0b {p : Prop} (h : p := by omega) : p := h
theorem z0c {p : Prop} (h : p := by simp) : p := h
theorem z0d {p : Prop} (h : p := by rw [HC.out]; exact (Below.refl _ _).drew) : p := h
theorem z0e {p : Prop} (h : p := by simp [results, Tryd.results74, go_sem]) : p := h
theorem z0f {p : Prop} (h : p := by first | rfl | simp [Act.eval]) : p := h
theorem z0g {p : Prop} (h : p := by decide) : p := h
theorem z0h {p : Prop} (h : p := by first | (simp; done) | (simp; omega)) : p := h
theorem z0i {p : Prop} (h : p := by rw [hC]; exact Below.refl _ _) : p := h
theorem z0j {p : Prop} (h : p := by simp [results, Tryd.results38, go_sem]) : p := h
theorem z0k {p : Prop} (h : p := by simp [results, Tryd.results34, go_sem]) : p := h
theorem z0l {p : Prop} (h : p := by have := hW.size; simp; omega) : p := h
theorem z0m {p : Prop} (h : p := by first | exact hn _ _ | exact hn2 _ _) : p := h
theorem z0n {p : Prop} (h : p := by rw [List.length_append, rowTk_snoc]; exact own1) : p := h
theorem z0o {p : Prop} (h : p := by unfold maxLen; omega) : p := h
theorem z0p {p : Prop} (h : p := by rw [← hcn2, (HFT.out j hjn HPJ.out).2, HS.out]) : p := h
theorem z0q {p : Prop} (h : p := by simp [results, Tryd.results31, go_sem]) : p := h
theorem z0r {p : Prop} (h : p := by rw [hb]; exact Bool.false_ne_true) : p := h
theorem z0s {p : Prop} (h : p := by simp at h) : p := h
theorem z0t {p : Prop} (h : p := by simp [results, Tryd.results23, go_sem]) : p := h
theorem z0u {p : Prop} (h : p := by simp [results, Tryd.results11, go_sem]) : p := h
theorem z0v {p : Prop} (h : p := by have := NT.out.s; rwa [hcn2] at this) : p := h
theorem z0w {p : Prop} (h : p := by simp [results, Tryd.results41, go_sem]) : p := h
theorem z0x {p : Prop} (h : p := by simp [results, Tryd.results19, go_sem]) : p := h
theorem z0y {p : Prop} (h : p := by simp [results, Tryd.results18, go_sem]) : p := h
theorem z0z {p : Prop} (h : p := by rw [hE, HBC.out]; omega) : p := h
theorem z0a1 {p : Prop} (h : p := by simp [results, Tryd.results80, go_sem, *]) : p := h
theorem z0b1 {p : Prop} (h : p := by rw [hr]; exact Bool.false_ne_true) : p := h
end Go
