/-
  The document's Right.
-/
import Derived.Test.YtghmmomlfhckgaaRight
namespace Go.Proofs.Ytghmmomlfhckgaa
open Go.RowKit
set_option linter.unusedVariables false
set_option linter.unusedSimpArgs false

theorem rright_e0 (y m d h i s : Int) (w : World)  (b : y < 2000) : Calls Try.prog 36 #[.agg #[.int .i64 y, .int .i64 m, .int .i64 d, .int .i64 h, .int .i64 i, .int .i64 s]] w fun e w' => e = .returned (.bool false) ∧ Below w.heap.size w w' := by
  have f0 : decide (y < 2000) = true := by simp; omega
  go_enter Try.func36, Try.ntmps36
  go_wp2_with fail
  go_quiet ((first | (go_at_call 37; exact quiet_left (days_any _ _ _))))
  go_wp2
  go_ret
  exact ⟨rfl, below_drewN ((Below.refl _ _).alloc (Nat.le_refl _) _) _⟩

theorem rright_e1 (y m d h i s : Int) (w : World) (a0 : 2000 ≤ y) (b : 2099 < y) : Calls Try.prog 36 #[.agg #[.int .i64 y, .int .i64 m, .int .i64 d, .int .i64 h, .int .i64 i, .int .i64 s]] w fun e w' => e = .returned (.bool false) ∧ Below w.heap.size w w' := by
  have f0 : decide (y < 2000) = false := by simp; omega
  have f1 : decide (2099 < y) = true := by simp; omega
  go_enter Try.func36, Try.ntmps36
  go_wp2_with fail
  go_quiet ((first | (go_at_call 37; exact quiet_left (days_any _ _ _))))
  go_wp2
  go_ret
  exact ⟨rfl, below_drewN ((Below.refl _ _).alloc (Nat.le_refl _) _) _⟩

theorem rright_e2 (y m d h i s : Int) (w : World) (a0 : 2000 ≤ y) (a1 : y ≤ 2099) (b : m < 1) : Calls Try.prog 36 #[.agg #[.int .i64 y, .int .i64 m, .int .i64 d, .int .i64 h, .int .i64 i, .int .i64 s]] w fun e w' => e = .returned (.bool false) ∧ Below w.heap.size w w' := by
  have f0 : decide (y < 2000) = false := by simp; omega
  have f1 : decide (2099 < y) = false := by simp; omega
  have f2 : decide (m < 1) = true := by simp; omega
  go_enter Try.func36, Try.ntmps36
  go_wp2_with fail
  go_quiet ((first | (go_at_call 37; exact quiet_left (days_any _ _ _))))
  go_wp2
  go_ret
  exact ⟨rfl, below_drewN ((Below.refl _ _).alloc (Nat.le_refl _) _) _⟩

theorem rright_e3 (y m d h i s : Int) (w : World) (a0 : 2000 ≤ y) (a1 : y ≤ 2099) (a2 : 1 ≤ m) (b : 12 < m) : Calls Try.prog 36 #[.agg #[.int .i64 y, .int .i64 m, .int .i64 d, .int .i64 h, .int .i64 i, .int .i64 s]] w fun e w' => e = .returned (.bool false) ∧ Below w.heap.size w w' := by
  have f0 : decide (y < 2000) = false := by simp; omega
  have f1 : decide (2099 < y) = false := by simp; omega
  have f2 : decide (m < 1) = false := by simp; omega
  have f3 : decide (12 < m) = true := by simp; omega
  go_enter Try.func36, Try.ntmps36
  go_wp2_with fail
  go_quiet ((first | (go_at_call 37; exact quiet_left (days_any _ _ _))))
  go_wp2
  go_ret
  exact ⟨rfl, below_drewN ((Below.refl _ _).alloc (Nat.le_refl _) _) _⟩

theorem rright_e4 (y m d h i s : Int) (w : World) (a0 : 2000 ≤ y) (a1 : y ≤ 2099) (a2 : 1 ≤ m) (a3 : m ≤ 12) (b : d < 1) : Calls Try.prog 36 #[.agg #[.int .i64 y, .int .i64 m, .int .i64 d, .int .i64 h, .int .i64 i, .int .i64 s]] w fun e w' => e = .returned (.bool false) ∧ Below w.heap.size w w' := by
  have f0 : decide (y < 2000) = false := by simp; omega
  have f1 : decide (2099 < y) = false := by simp; omega
  have f2 : decide (m < 1) = false := by simp; omega
  have f3 : decide (12 < m) = false := by simp; omega
  have f4 : decide (d < 1) = true := by simp; omega
  go_enter Try.func36, Try.ntmps36
  go_wp2_with fail
  go_quiet ((first | (go_at_call 37; exact quiet_left (days_any _ _ _))))
  go_wp2
  go_ret
  exact ⟨rfl, below_drewN ((Below.refl _ _).alloc (Nat.le_refl _) _) _⟩

theorem rright_e5 (y m d h i s : Int) (w : World) (a0 : 2000 ≤ y) (a1 : y ≤ 2099) (a2 : 1 ≤ m) (a3 : m ≤ 12) (a4 : 1 ≤ d) (b : dim y m < d) : Calls Try.prog 36 #[.agg #[.int .i64 y, .int .i64 m, .int .i64 d, .int .i64 h, .int .i64 i, .int .i64 s]] w fun e w' => e = .returned (.bool false) ∧ Below w.heap.size w w' := by
  have f0 : decide (y < 2000) = false := by simp; omega
  have f1 : decide (2099 < y) = false := by simp; omega
  have f2 : decide (m < 1) = false := by simp; omega
  have f3 : decide (12 < m) = false := by simp; omega
  have f4 : decide (d < 1) = false := by simp; omega
  have f5 : decide (dim y m < d) = true := by simp; omega
  go_enter Try.func36, Try.ntmps36
  go_wp2_with fail
  go_quiet ((first | (go_at_call 37; exact quiet_left (days_any _ _ _))))
  go_wp2
  go_ret
  exact ⟨rfl, below_drewN ((Below.refl _ _).alloc (Nat.le_refl _) _) _⟩

theorem rright_c0 (y m d h i s : Int) (w : World) (a0 : 2000 ≤ y) (a1 : y ≤ 2099) (a2 : 1 ≤ m) (a3 : m ≤ 12) (a4 : 1 ≤ d) (a5 : d ≤ dim y m)  (b : h < 0) : Calls Try.prog 36 #[.agg #[.int .i64 y, .int .i64 m, .int .i64 d, .int .i64 h, .int .i64 i, .int .i64 s]] w fun e w' => e = .returned (.bool false) ∧ Below w.heap.size w w' := by
  have f0 : decide (y < 2000) = false := by simp; omega
  have f1 : decide (2099 < y) = false := by simp; omega
  have f2 : decide (m < 1) = false := by simp; omega
  have f3 : decide (12 < m) = false := by simp; omega
  have f4 : decide (d < 1) = false := by simp; omega
  have f5 : decide (dim y m < d) = false := by simp; omega
  go_enter Try.func36, Try.ntmps36
  go_wp2_with fail
  go_quiet ((first | (go_at_call 37; exact quiet_left (days_any _ _ _))))
  go_wp2
  go_ret
  first
  | exact ⟨rfl, below_drewN ((Below.refl _ _).alloc (Nat.le_refl _) _) _⟩
  | exact ⟨by simp; omega, below_drewN ((Below.refl _ _).alloc (Nat.le_refl _) _) _⟩

theorem rright_c1 (y m d h i s : Int) (w : World) (a0 : 2000 ≤ y) (a1 : y ≤ 2099) (a2 : 1 ≤ m) (a3 : m ≤ 12) (a4 : 1 ≤ d) (a5 : d ≤ dim y m) (c0 : 0 ≤ h) (b : 23 < h) : Calls Try.prog 36 #[.agg #[.int .i64 y, .int .i64 m, .int .i64 d, .int .i64 h, .int .i64 i, .int .i64 s]] w fun e w' => e = .returned (.bool false) ∧ Below w.heap.size w w' := by
  have f0 : decide (y < 2000) = false := by simp; omega
  have f1 : decide (2099 < y) = false := by simp; omega
  have f2 : decide (m < 1) = false := by simp; omega
  have f3 : decide (12 < m) = false := by simp; omega
  have f4 : decide (d < 1) = false := by simp; omega
  have f5 : decide (dim y m < d) = false := by simp; omega
  go_enter Try.func36, Try.ntmps36
  go_wp2_with fail
  go_quiet ((first | (go_at_call 37; exact quiet_left (days_any _ _ _))))
  go_wp2
  go_ret
  first
  | exact ⟨rfl, below_drewN ((Below.refl _ _).alloc (Nat.le_refl _) _) _⟩
  | exact ⟨by simp; omega, below_drewN ((Below.refl _ _).alloc (Nat.le_refl _) _) _⟩

theorem rright_c2 (y m d h i s : Int) (w : World) (a0 : 2000 ≤ y) (a1 : y ≤ 2099) (a2 : 1 ≤ m) (a3 : m ≤ 12) (a4 : 1 ≤ d) (a5 : d ≤ dim y m) (c0 : 0 ≤ h) (c1 : h ≤ 23) (b : i < 0) : Calls Try.prog 36 #[.agg #[.int .i64 y, .int .i64 m, .int .i64 d, .int .i64 h, .int .i64 i, .int .i64 s]] w fun e w' => e = .returned (.bool false) ∧ Below w.heap.size w w' := by
  have f0 : decide (y < 2000) = false := by simp; omega
  have f1 : decide (2099 < y) = false := by simp; omega
  have f2 : decide (m < 1) = false := by simp; omega
  have f3 : decide (12 < m) = false := by simp; omega
  have f4 : decide (d < 1) = false := by simp; omega
  have f5 : decide (dim y m < d) = false := by simp; omega
  go_enter Try.func36, Try.ntmps36
  go_wp2_with fail
  go_quiet ((first | (go_at_call 37; exact quiet_left (days_any _ _ _))))
  go_wp2
  go_ret
  first
  | exact ⟨rfl, below_drewN ((Below.refl _ _).alloc (Nat.le_refl _) _) _⟩
  | exact ⟨by simp; omega, below_drewN ((Below.refl _ _).alloc (Nat.le_refl _) _) _⟩

theorem rright_c3 (y m d h i s : Int) (w : World) (a0 : 2000 ≤ y) (a1 : y ≤ 2099) (a2 : 1 ≤ m) (a3 : m ≤ 12) (a4 : 1 ≤ d) (a5 : d ≤ dim y m) (c0 : 0 ≤ h) (c1 : h ≤ 23) (c2 : 0 ≤ i) (b : 59 < i) : Calls Try.prog 36 #[.agg #[.int .i64 y, .int .i64 m, .int .i64 d, .int .i64 h, .int .i64 i, .int .i64 s]] w fun e w' => e = .returned (.bool false) ∧ Below w.heap.size w w' := by
  have f0 : decide (y < 2000) = false := by simp; omega
  have f1 : decide (2099 < y) = false := by simp; omega
  have f2 : decide (m < 1) = false := by simp; omega
  have f3 : decide (12 < m) = false := by simp; omega
  have f4 : decide (d < 1) = false := by simp; omega
  have f5 : decide (dim y m < d) = false := by simp; omega
  go_enter Try.func36, Try.ntmps36
  go_wp2_with fail
  go_quiet ((first | (go_at_call 37; exact quiet_left (days_any _ _ _))))
  go_wp2
  go_ret
  first
  | exact ⟨rfl, below_drewN ((Below.refl _ _).alloc (Nat.le_refl _) _) _⟩
  | exact ⟨by simp; omega, below_drewN ((Below.refl _ _).alloc (Nat.le_refl _) _) _⟩

theorem rright_c4 (y m d h i s : Int) (w : World) (a0 : 2000 ≤ y) (a1 : y ≤ 2099) (a2 : 1 ≤ m) (a3 : m ≤ 12) (a4 : 1 ≤ d) (a5 : d ≤ dim y m) (c0 : 0 ≤ h) (c1 : h ≤ 23) (c2 : 0 ≤ i) (c3 : i ≤ 59) (b : s < 0) : Calls Try.prog 36 #[.agg #[.int .i64 y, .int .i64 m, .int .i64 d, .int .i64 h, .int .i64 i, .int .i64 s]] w fun e w' => e = .returned (.bool false) ∧ Below w.heap.size w w' := by
  have f0 : decide (y < 2000) = false := by simp; omega
  have f1 : decide (2099 < y) = false := by simp; omega
  have f2 : decide (m < 1) = false := by simp; omega
  have f3 : decide (12 < m) = false := by simp; omega
  have f4 : decide (d < 1) = false := by simp; omega
  have f5 : decide (dim y m < d) = false := by simp; omega
  go_enter Try.func36, Try.ntmps36
  go_wp2_with fail
  go_quiet ((first | (go_at_call 37; exact quiet_left (days_any _ _ _))))
  go_wp2
  go_ret
  first
  | exact ⟨rfl, below_drewN ((Below.refl _ _).alloc (Nat.le_refl _) _) _⟩
  | exact ⟨by simp; omega, below_drewN ((Below.refl _ _).alloc (Nat.le_refl _) _) _⟩

theorem rright_c5 (y m d h i s : Int) (w : World) (a0 : 2000 ≤ y) (a1 : y ≤ 2099) (a2 : 1 ≤ m) (a3 : m ≤ 12) (a4 : 1 ≤ d) (a5 : d ≤ dim y m) (c0 : 0 ≤ h) (c1 : h ≤ 23) (c2 : 0 ≤ i) (c3 : i ≤ 59) (c4 : 0 ≤ s) (b : 59 < s) : Calls Try.prog 36 #[.agg #[.int .i64 y, .int .i64 m, .int .i64 d, .int .i64 h, .int .i64 i, .int .i64 s]] w fun e w' => e = .returned (.bool false) ∧ Below w.heap.size w w' := by
  have f0 : decide (y < 2000) = false := by simp; omega
  have f1 : decide (2099 < y) = false := by simp; omega
  have f2 : decide (m < 1) = false := by simp; omega
  have f3 : decide (12 < m) = false := by simp; omega
  have f4 : decide (d < 1) = false := by simp; omega
  have f5 : decide (dim y m < d) = false := by simp; omega
  go_enter Try.func36, Try.ntmps36
  go_wp2_with fail
  go_quiet ((first | (go_at_call 37; exact quiet_left (days_any _ _ _))))
  go_wp2
  go_ret
  first
  | exact ⟨rfl, below_drewN ((Below.refl _ _).alloc (Nat.le_refl _) _) _⟩
  | exact ⟨by simp; omega, below_drewN ((Below.refl _ _).alloc (Nat.le_refl _) _) _⟩

theorem rright_c6 (y m d h i s : Int) (w : World) (a0 : 2000 ≤ y) (a1 : y ≤ 2099) (a2 : 1 ≤ m) (a3 : m ≤ 12) (a4 : 1 ≤ d) (a5 : d ≤ dim y m) (c0 : 0 ≤ h) (c1 : h ≤ 23) (c2 : 0 ≤ i) (c3 : i ≤ 59) (c4 : 0 ≤ s) (c5 : s ≤ 59) : Calls Try.prog 36 #[.agg #[.int .i64 y, .int .i64 m, .int .i64 d, .int .i64 h, .int .i64 i, .int .i64 s]] w fun e w' => e = .returned (.bool true) ∧ Below w.heap.size w w' := by
  have f0 : decide (y < 2000) = false := by simp; omega
  have f1 : decide (2099 < y) = false := by simp; omega
  have f2 : decide (m < 1) = false := by simp; omega
  have f3 : decide (12 < m) = false := by simp; omega
  have f4 : decide (d < 1) = false := by simp; omega
  have f5 : decide (dim y m < d) = false := by simp; omega
  go_enter Try.func36, Try.ntmps36
  go_wp2_with fail
  go_quiet ((first | (go_at_call 37; exact quiet_left (days_any _ _ _))))
  go_wp2
  go_ret
  first
  | exact ⟨rfl, below_drewN ((Below.refl _ _).alloc (Nat.le_refl _) _) _⟩
  | exact ⟨by simp; omega, below_drewN ((Below.refl _ _).alloc (Nat.le_refl _) _) _⟩

theorem rright_any (y m d h i s : Int) (w : World) : Calls Try.prog 36 #[.agg #[.int .i64 y, .int .i64 m, .int .i64 d, .int .i64 h, .int .i64 i, .int .i64 s]] w fun e w' => e = .returned (.bool (vldB y m d h i s)) ∧ Below w.heap.size w w' := by
  by_cases a0 : 2000 ≤ y
  rotate_left
  · rw [vldB_no (by unfold vldP; omega)]; exact rright_e0 y m d h i s w  (by omega)
  by_cases a1 : y ≤ 2099
  rotate_left
  · rw [vldB_no (by unfold vldP; omega)]; exact rright_e1 y m d h i s w a0 (by omega)
  by_cases a2 : 1 ≤ m
  rotate_left
  · rw [vldB_no (by unfold vldP; omega)]; exact rright_e2 y m d h i s w a0 a1 (by omega)
  by_cases a3 : m ≤ 12
  rotate_left
  · rw [vldB_no (by unfold vldP; omega)]; exact rright_e3 y m d h i s w a0 a1 a2 (by omega)
  by_cases a4 : 1 ≤ d
  rotate_left
  · rw [vldB_no (by unfold vldP; omega)]; exact rright_e4 y m d h i s w a0 a1 a2 a3 (by omega)
  by_cases a5 : d ≤ dim y m
  rotate_left
  · rw [vldB_no (by unfold vldP; omega)]; exact rright_e5 y m d h i s w a0 a1 a2 a3 a4 (by omega)
  by_cases c0 : 0 ≤ h
  rotate_left
  · rw [vldB_no (by unfold vldP; omega)]; exact rright_c0 y m d h i s w a0 a1 a2 a3 a4 a5  (by omega)
  by_cases c1 : h ≤ 23
  rotate_left
  · rw [vldB_no (by unfold vldP; omega)]; exact rright_c1 y m d h i s w a0 a1 a2 a3 a4 a5 c0 (by omega)
  by_cases c2 : 0 ≤ i
  rotate_left
  · rw [vldB_no (by unfold vldP; omega)]; exact rright_c2 y m d h i s w a0 a1 a2 a3 a4 a5 c0 c1 (by omega)
  by_cases c3 : i ≤ 59
  rotate_left
  · rw [vldB_no (by unfold vldP; omega)]; exact rright_c3 y m d h i s w a0 a1 a2 a3 a4 a5 c0 c1 c2 (by omega)
  by_cases c4 : 0 ≤ s
  rotate_left
  · rw [vldB_no (by unfold vldP; omega)]; exact rright_c4 y m d h i s w a0 a1 a2 a3 a4 a5 c0 c1 c2 c3 (by omega)
  by_cases c5 : s ≤ 59
  rotate_left
  · rw [vldB_no (by unfold vldP; omega)]; exact rright_c5 y m d h i s w a0 a1 a2 a3 a4 a5 c0 c1 c2 c3 c4 (by omega)
  rw [vldB_yes ⟨a0, a1, a2, a3, a4, a5, c0, c1, c2, c3, c4, c5⟩]; exact rright_c6 y m d h i s w a0 a1 a2 a3 a4 a5 c0 c1 c2 c3 c4 c5
end Go.Proofs.Ytghmmomlfhckgaa
