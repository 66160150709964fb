/-
  Dates that are right, and Of: the program's and the document's.
-/
import Derived.Test.YtghmmomlfhckgaaAhead
import Derived.Test.YtghmmomlfhckgaaLeaf
namespace Go.Proofs.Ytghmmomlfhckgaa
open Go.RowKit
set_option linter.unusedVariables false
set_option linter.unusedSimpArgs false
theorem below_drewN {B : Nat} {a w : World} (h : Below B a w) (n : Nat) : Below B a (w.drewN n) := ⟨h.os, h.tape, h.output, h.size, h.block⟩
theorem quiet_left {P : Program} {f : FuncId} {args : Array Value} {w : World} {n : Nat} {v : Value}
    (h : Calls P f args (w.drewN n) fun e w' => e = .returned v ∧ w.drewN n = w') : Calls P f args (w.drewN n) fun e w' => e = .returned v ∧ ∃ m, w' = w.drewN m :=
  h.mono fun _ _ ⟨he, hm⟩ => ⟨he, n, hm.symm⟩
def vldB (y m d h i s : Int) : Bool := decide (vldP y m d h i s)
theorem vldB_no {y m d h i s : Int} (v : ¬ vldP y m d h i s) : vldB y m d h i s = false := by unfold vldB; simp [v]
theorem vldB_yes {y m d h i s : Int} (v : vldP y m d h i s) : vldB y m d h i s = true := by unfold vldB; simp [v]

theorem right_e0 (y m d h i s : Int) (w : World)  (b : y < 2000) : Calls Try.prog 33 #[.agg #[.int .i64 y, .int .i64 m, .int .i64 d, .int .i64 h, .int .i64 i, .int .i64 s]] w fun e w' => e = .returned (.bool false) ∧ Below w.heap.size w w' := by
  go_enter Try.func33, Try.ntmps33
  go_wp2
  go_ret
  exact ⟨rfl, (Below.refl _ _).alloc (Nat.le_refl _) _⟩

theorem right_e1 (y m d h i s : Int) (w : World) (a0 : 2000 ≤ y) (b : 2099 < y) : Calls Try.prog 33 #[.agg #[.int .i64 y, .int .i64 m, .int .i64 d, .int .i64 h, .int .i64 i, .int .i64 s]] w fun e w' => e = .returned (.bool false) ∧ Below w.heap.size w w' := by
  go_enter Try.func33, Try.ntmps33
  go_wp2
  go_ret
  exact ⟨rfl, (Below.refl _ _).alloc (Nat.le_refl _) _⟩

theorem right_e2 (y m d h i s : Int) (w : World) (a0 : 2000 ≤ y) (a1 : y ≤ 2099) (b : m < 1) : Calls Try.prog 33 #[.agg #[.int .i64 y, .int .i64 m, .int .i64 d, .int .i64 h, .int .i64 i, .int .i64 s]] w fun e w' => e = .returned (.bool false) ∧ Below w.heap.size w w' := by
  go_enter Try.func33, Try.ntmps33
  go_wp2
  go_ret
  exact ⟨rfl, (Below.refl _ _).alloc (Nat.le_refl _) _⟩

theorem right_e3 (y m d h i s : Int) (w : World) (a0 : 2000 ≤ y) (a1 : y ≤ 2099) (a2 : 1 ≤ m) (b : 12 < m) : Calls Try.prog 33 #[.agg #[.int .i64 y, .int .i64 m, .int .i64 d, .int .i64 h, .int .i64 i, .int .i64 s]] w fun e w' => e = .returned (.bool false) ∧ Below w.heap.size w w' := by
  go_enter Try.func33, Try.ntmps33
  go_wp2
  go_ret
  exact ⟨rfl, (Below.refl _ _).alloc (Nat.le_refl _) _⟩

theorem right_c0 (y m d h i s : Int) (w : World) (a0 : 2000 ≤ y) (a1 : y ≤ 2099) (a2 : 1 ≤ m) (a3 : m ≤ 12)  (b : d < 1) : Calls Try.prog 33 #[.agg #[.int .i64 y, .int .i64 m, .int .i64 d, .int .i64 h, .int .i64 i, .int .i64 s]] w fun e w' => e = .returned (.bool false) ∧ Below w.heap.size w w' := by
  have u0 := ahd_lo y m
  have u1 := ahd_hi y m
  have u2 := ahd_lo y (m + 1)
  have u3 := ahd_hi y (m + 1)
  have W1 : IntKind.i64.wrap (m + 1) = m + 1 := IntWalk.i64_in _ (by omega)
  have W2 : IntKind.i64.wrap (ahd y (m + 1) - ahd y m) = ahd y (m + 1) - ahd y m := IntWalk.i64_in _ (by omega)
  go_enter Try.func33, Try.ntmps33
  go_wp2_with fail
  go_quiet ((first | (go_at_call 35; exact quiet_left (ahead_any _ _ _))))
  clear W1 W2
  go_wp2
  go_ret
  first
  | exact ⟨rfl, below_drewN ((Below.refl _ _).alloc (Nat.le_refl _) _) _⟩
  | exact ⟨by simp; omega, below_drewN ((Below.refl _ _).alloc (Nat.le_refl _) _) _⟩

theorem right_c1 (y m d h i s : Int) (w : World) (a0 : 2000 ≤ y) (a1 : y ≤ 2099) (a2 : 1 ≤ m) (a3 : m ≤ 12) (c0 : 1 ≤ d) (b : ahd y (m + 1) - ahd y m < d) : Calls Try.prog 33 #[.agg #[.int .i64 y, .int .i64 m, .int .i64 d, .int .i64 h, .int .i64 i, .int .i64 s]] w fun e w' => e = .returned (.bool false) ∧ Below w.heap.size w w' := by
  have u0 := ahd_lo y m
  have u1 := ahd_hi y m
  have u2 := ahd_lo y (m + 1)
  have u3 := ahd_hi y (m + 1)
  have W1 : IntKind.i64.wrap (m + 1) = m + 1 := IntWalk.i64_in _ (by omega)
  have W2 : IntKind.i64.wrap (ahd y (m + 1) - ahd y m) = ahd y (m + 1) - ahd y m := IntWalk.i64_in _ (by omega)
  go_enter Try.func33, Try.ntmps33
  go_wp2_with fail
  go_quiet ((first | (go_at_call 35; exact quiet_left (ahead_any _ _ _))))
  clear W1 W2
  go_wp2
  go_ret
  first
  | exact ⟨rfl, below_drewN ((Below.refl _ _).alloc (Nat.le_refl _) _) _⟩
  | exact ⟨by simp; omega, below_drewN ((Below.refl _ _).alloc (Nat.le_refl _) _) _⟩

theorem right_c2 (y m d h i s : Int) (w : World) (a0 : 2000 ≤ y) (a1 : y ≤ 2099) (a2 : 1 ≤ m) (a3 : m ≤ 12) (c0 : 1 ≤ d) (c1 : d ≤ ahd y (m + 1) - ahd y m) (b : h < 0) : Calls Try.prog 33 #[.agg #[.int .i64 y, .int .i64 m, .int .i64 d, .int .i64 h, .int .i64 i, .int .i64 s]] w fun e w' => e = .returned (.bool false) ∧ Below w.heap.size w w' := by
  have u0 := ahd_lo y m
  have u1 := ahd_hi y m
  have u2 := ahd_lo y (m + 1)
  have u3 := ahd_hi y (m + 1)
  have W1 : IntKind.i64.wrap (m + 1) = m + 1 := IntWalk.i64_in _ (by omega)
  have W2 : IntKind.i64.wrap (ahd y (m + 1) - ahd y m) = ahd y (m + 1) - ahd y m := IntWalk.i64_in _ (by omega)
  go_enter Try.func33, Try.ntmps33
  go_wp2_with fail
  go_quiet ((first | (go_at_call 35; exact quiet_left (ahead_any _ _ _))))
  clear W1 W2
  go_wp2
  go_ret
  first
  | exact ⟨rfl, below_drewN ((Below.refl _ _).alloc (Nat.le_refl _) _) _⟩
  | exact ⟨by simp; omega, below_drewN ((Below.refl _ _).alloc (Nat.le_refl _) _) _⟩

theorem right_c3 (y m d h i s : Int) (w : World) (a0 : 2000 ≤ y) (a1 : y ≤ 2099) (a2 : 1 ≤ m) (a3 : m ≤ 12) (c0 : 1 ≤ d) (c1 : d ≤ ahd y (m + 1) - ahd y m) (c2 : 0 ≤ h) (b : 23 < h) : Calls Try.prog 33 #[.agg #[.int .i64 y, .int .i64 m, .int .i64 d, .int .i64 h, .int .i64 i, .int .i64 s]] w fun e w' => e = .returned (.bool false) ∧ Below w.heap.size w w' := by
  have u0 := ahd_lo y m
  have u1 := ahd_hi y m
  have u2 := ahd_lo y (m + 1)
  have u3 := ahd_hi y (m + 1)
  have W1 : IntKind.i64.wrap (m + 1) = m + 1 := IntWalk.i64_in _ (by omega)
  have W2 : IntKind.i64.wrap (ahd y (m + 1) - ahd y m) = ahd y (m + 1) - ahd y m := IntWalk.i64_in _ (by omega)
  go_enter Try.func33, Try.ntmps33
  go_wp2_with fail
  go_quiet ((first | (go_at_call 35; exact quiet_left (ahead_any _ _ _))))
  clear W1 W2
  go_wp2
  go_ret
  first
  | exact ⟨rfl, below_drewN ((Below.refl _ _).alloc (Nat.le_refl _) _) _⟩
  | exact ⟨by simp; omega, below_drewN ((Below.refl _ _).alloc (Nat.le_refl _) _) _⟩

theorem right_c4 (y m d h i s : Int) (w : World) (a0 : 2000 ≤ y) (a1 : y ≤ 2099) (a2 : 1 ≤ m) (a3 : m ≤ 12) (c0 : 1 ≤ d) (c1 : d ≤ ahd y (m + 1) - ahd y m) (c2 : 0 ≤ h) (c3 : h ≤ 23) (b : i < 0) : Calls Try.prog 33 #[.agg #[.int .i64 y, .int .i64 m, .int .i64 d, .int .i64 h, .int .i64 i, .int .i64 s]] w fun e w' => e = .returned (.bool false) ∧ Below w.heap.size w w' := by
  have u0 := ahd_lo y m
  have u1 := ahd_hi y m
  have u2 := ahd_lo y (m + 1)
  have u3 := ahd_hi y (m + 1)
  have W1 : IntKind.i64.wrap (m + 1) = m + 1 := IntWalk.i64_in _ (by omega)
  have W2 : IntKind.i64.wrap (ahd y (m + 1) - ahd y m) = ahd y (m + 1) - ahd y m := IntWalk.i64_in _ (by omega)
  go_enter Try.func33, Try.ntmps33
  go_wp2_with fail
  go_quiet ((first | (go_at_call 35; exact quiet_left (ahead_any _ _ _))))
  clear W1 W2
  go_wp2
  go_ret
  first
  | exact ⟨rfl, below_drewN ((Below.refl _ _).alloc (Nat.le_refl _) _) _⟩
  | exact ⟨by simp; omega, below_drewN ((Below.refl _ _).alloc (Nat.le_refl _) _) _⟩

theorem right_c5 (y m d h i s : Int) (w : World) (a0 : 2000 ≤ y) (a1 : y ≤ 2099) (a2 : 1 ≤ m) (a3 : m ≤ 12) (c0 : 1 ≤ d) (c1 : d ≤ ahd y (m + 1) - ahd y m) (c2 : 0 ≤ h) (c3 : h ≤ 23) (c4 : 0 ≤ i) (b : 59 < i) : Calls Try.prog 33 #[.agg #[.int .i64 y, .int .i64 m, .int .i64 d, .int .i64 h, .int .i64 i, .int .i64 s]] w fun e w' => e = .returned (.bool false) ∧ Below w.heap.size w w' := by
  have u0 := ahd_lo y m
  have u1 := ahd_hi y m
  have u2 := ahd_lo y (m + 1)
  have u3 := ahd_hi y (m + 1)
  have W1 : IntKind.i64.wrap (m + 1) = m + 1 := IntWalk.i64_in _ (by omega)
  have W2 : IntKind.i64.wrap (ahd y (m + 1) - ahd y m) = ahd y (m + 1) - ahd y m := IntWalk.i64_in _ (by omega)
  go_enter Try.func33, Try.ntmps33
  go_wp2_with fail
  go_quiet ((first | (go_at_call 35; exact quiet_left (ahead_any _ _ _))))
  clear W1 W2
  go_wp2
  go_ret
  first
  | exact ⟨rfl, below_drewN ((Below.refl _ _).alloc (Nat.le_refl _) _) _⟩
  | exact ⟨by simp; omega, below_drewN ((Below.refl _ _).alloc (Nat.le_refl _) _) _⟩

theorem right_c6 (y m d h i s : Int) (w : World) (a0 : 2000 ≤ y) (a1 : y ≤ 2099) (a2 : 1 ≤ m) (a3 : m ≤ 12) (c0 : 1 ≤ d) (c1 : d ≤ ahd y (m + 1) - ahd y m) (c2 : 0 ≤ h) (c3 : h ≤ 23) (c4 : 0 ≤ i) (c5 : i ≤ 59) (b : s < 0) : Calls Try.prog 33 #[.agg #[.int .i64 y, .int .i64 m, .int .i64 d, .int .i64 h, .int .i64 i, .int .i64 s]] w fun e w' => e = .returned (.bool false) ∧ Below w.heap.size w w' := by
  have u0 := ahd_lo y m
  have u1 := ahd_hi y m
  have u2 := ahd_lo y (m + 1)
  have u3 := ahd_hi y (m + 1)
  have W1 : IntKind.i64.wrap (m + 1) = m + 1 := IntWalk.i64_in _ (by omega)
  have W2 : IntKind.i64.wrap (ahd y (m + 1) - ahd y m) = ahd y (m + 1) - ahd y m := IntWalk.i64_in _ (by omega)
  go_enter Try.func33, Try.ntmps33
  go_wp2_with fail
  go_quiet ((first | (go_at_call 35; exact quiet_left (ahead_any _ _ _))))
  clear W1 W2
  go_wp2
  go_ret
  first
  | exact ⟨rfl, below_drewN ((Below.refl _ _).alloc (Nat.le_refl _) _) _⟩
  | exact ⟨by simp; omega, below_drewN ((Below.refl _ _).alloc (Nat.le_refl _) _) _⟩

theorem right_c7 (y m d h i s : Int) (w : World) (a0 : 2000 ≤ y) (a1 : y ≤ 2099) (a2 : 1 ≤ m) (a3 : m ≤ 12) (c0 : 1 ≤ d) (c1 : d ≤ ahd y (m + 1) - ahd y m) (c2 : 0 ≤ h) (c3 : h ≤ 23) (c4 : 0 ≤ i) (c5 : i ≤ 59) (c6 : 0 ≤ s) (b : 59 < s) : Calls Try.prog 33 #[.agg #[.int .i64 y, .int .i64 m, .int .i64 d, .int .i64 h, .int .i64 i, .int .i64 s]] w fun e w' => e = .returned (.bool false) ∧ Below w.heap.size w w' := by
  have u0 := ahd_lo y m
  have u1 := ahd_hi y m
  have u2 := ahd_lo y (m + 1)
  have u3 := ahd_hi y (m + 1)
  have W1 : IntKind.i64.wrap (m + 1) = m + 1 := IntWalk.i64_in _ (by omega)
  have W2 : IntKind.i64.wrap (ahd y (m + 1) - ahd y m) = ahd y (m + 1) - ahd y m := IntWalk.i64_in _ (by omega)
  go_enter Try.func33, Try.ntmps33
  go_wp2_with fail
  go_quiet ((first | (go_at_call 35; exact quiet_left (ahead_any _ _ _))))
  clear W1 W2
  go_wp2
  go_ret
  first
  | exact ⟨rfl, below_drewN ((Below.refl _ _).alloc (Nat.le_refl _) _) _⟩
  | exact ⟨by simp; omega, below_drewN ((Below.refl _ _).alloc (Nat.le_refl _) _) _⟩

theorem right_c8 (y m d h i s : Int) (w : World) (a0 : 2000 ≤ y) (a1 : y ≤ 2099) (a2 : 1 ≤ m) (a3 : m ≤ 12) (c0 : 1 ≤ d) (c1 : d ≤ ahd y (m + 1) - ahd y m) (c2 : 0 ≤ h) (c3 : h ≤ 23) (c4 : 0 ≤ i) (c5 : i ≤ 59) (c6 : 0 ≤ s) (c7 : s ≤ 59) : Calls Try.prog 33 #[.agg #[.int .i64 y, .int .i64 m, .int .i64 d, .int .i64 h, .int .i64 i, .int .i64 s]] w fun e w' => e = .returned (.bool true) ∧ Below w.heap.size w w' := by
  have u0 := ahd_lo y m
  have u1 := ahd_hi y m
  have u2 := ahd_lo y (m + 1)
  have u3 := ahd_hi y (m + 1)
  have W1 : IntKind.i64.wrap (m + 1) = m + 1 := IntWalk.i64_in _ (by omega)
  have W2 : IntKind.i64.wrap (ahd y (m + 1) - ahd y m) = ahd y (m + 1) - ahd y m := IntWalk.i64_in _ (by omega)
  go_enter Try.func33, Try.ntmps33
  go_wp2_with fail
  go_quiet ((first | (go_at_call 35; exact quiet_left (ahead_any _ _ _))))
  clear W1 W2
  go_wp2
  go_ret
  first
  | exact ⟨rfl, below_drewN ((Below.refl _ _).alloc (Nat.le_refl _) _) _⟩
  | exact ⟨by simp; omega, below_drewN ((Below.refl _ _).alloc (Nat.le_refl _) _) _⟩

theorem right_any (y m d h i s : Int) (w : World) : Calls Try.prog 33 #[.agg #[.int .i64 y, .int .i64 m, .int .i64 d, .int .i64 h, .int .i64 i, .int .i64 s]] w fun e w' => e = .returned (.bool (vldB y m d h i s)) ∧ Below w.heap.size w w' := by
  by_cases a0 : 2000 ≤ y
  rotate_left
  · rw [vldB_no (by unfold vldP; omega)]; exact right_e0 y m d h i s w  (by omega)
  by_cases a1 : y ≤ 2099
  rotate_left
  · rw [vldB_no (by unfold vldP; omega)]; exact right_e1 y m d h i s w a0 (by omega)
  by_cases a2 : 1 ≤ m
  rotate_left
  · rw [vldB_no (by unfold vldP; omega)]; exact right_e2 y m d h i s w a0 a1 (by omega)
  by_cases a3 : m ≤ 12
  rotate_left
  · rw [vldB_no (by unfold vldP; omega)]; exact right_e3 y m d h i s w a0 a1 a2 (by omega)
  have ds := ahd_succ y m a2 a3
  by_cases c0 : 1 ≤ d
  rotate_left
  · rw [vldB_no (by unfold vldP; omega)]; exact right_c0 y m d h i s w a0 a1 a2 a3  (by omega)
  by_cases c1 : d ≤ dim y m
  rotate_left
  · rw [vldB_no (by unfold vldP; omega)]; exact right_c1 y m d h i s w a0 a1 a2 a3 (by omega) (by omega)
  by_cases c2 : 0 ≤ h
  rotate_left
  · rw [vldB_no (by unfold vldP; omega)]; exact right_c2 y m d h i s w a0 a1 a2 a3 (by omega) (by omega) (by omega)
  by_cases c3 : h ≤ 23
  rotate_left
  · rw [vldB_no (by unfold vldP; omega)]; exact right_c3 y m d h i s w a0 a1 a2 a3 (by omega) (by omega) (by omega) (by omega)
  by_cases c4 : 0 ≤ i
  rotate_left
  · rw [vldB_no (by unfold vldP; omega)]; exact right_c4 y m d h i s w a0 a1 a2 a3 (by omega) (by omega) (by omega) (by omega) (by omega)
  by_cases c5 : i ≤ 59
  rotate_left
  · rw [vldB_no (by unfold vldP; omega)]; exact right_c5 y m d h i s w a0 a1 a2 a3 (by omega) (by omega) (by omega) (by omega) (by omega) (by omega)
  by_cases c6 : 0 ≤ s
  rotate_left
  · rw [vldB_no (by unfold vldP; omega)]; exact right_c6 y m d h i s w a0 a1 a2 a3 (by omega) (by omega) (by omega) (by omega) (by omega) (by omega) (by omega)
  by_cases c7 : s ≤ 59
  rotate_left
  · rw [vldB_no (by unfold vldP; omega)]; exact right_c7 y m d h i s w a0 a1 a2 a3 (by omega) (by omega) (by omega) (by omega) (by omega) (by omega) (by omega) (by omega)
  rw [vldB_yes ⟨a0, a1, a2, a3, c0, c1, c2, c3, c4, c5, c6, c7⟩]; exact right_c8 y m d h i s w a0 a1 a2 a3 c0 (by omega) c2 c3 c4 c5 c6 c7
end Go.Proofs.Ytghmmomlfhckgaa
