/-
  clock.ahead, by its contract: the switch whose cases fall through.
-/
import Derived.Test.YtghmmomlfhckgaaLeap
namespace Go.Proofs.Ytghmmomlfhckgaa
open Go.RowKit
set_option linter.unusedVariables false
set_option linter.unusedSimpArgs false

theorem ahead_13t (y : Int) (w : World) (h : lpB y = true) : Calls Try.prog 35 #[.int .i64 y, .int .i64 13] w fun e w' => e = .returned (.int .i64 366) ∧ w = w' := by
  have H := Lib.hid h
  clear h
  go_enter Try.func35, Try.ntmps35
  go_wp2_with (go_at_call 16; refine (leap_is y true H.out _).mono ?_; rintro e w' ⟨rfl, rfl⟩)
  go_ret
  exact ⟨rfl, rfl⟩

theorem ahead_13f (y : Int) (w : World) (h : lpB y = false) : Calls Try.prog 35 #[.int .i64 y, .int .i64 13] w fun e w' => e = .returned (.int .i64 365) ∧ w = w' := by
  have H := Lib.hid h
  clear h
  go_enter Try.func35, Try.ntmps35
  go_wp2_with (go_at_call 16; refine (leap_is y false H.out _).mono ?_; rintro e w' ⟨rfl, rfl⟩)
  go_ret
  exact ⟨rfl, rfl⟩

theorem ahead_12t (y : Int) (w : World) (h : lpB y = true) : Calls Try.prog 35 #[.int .i64 y, .int .i64 12] w fun e w' => e = .returned (.int .i64 335) ∧ w = w' := by
  have H := Lib.hid h
  clear h
  go_enter Try.func35, Try.ntmps35
  go_wp2_with (go_at_call 16; refine (leap_is y true H.out _).mono ?_; rintro e w' ⟨rfl, rfl⟩)
  go_ret
  exact ⟨rfl, rfl⟩

theorem ahead_12f (y : Int) (w : World) (h : lpB y = false) : Calls Try.prog 35 #[.int .i64 y, .int .i64 12] w fun e w' => e = .returned (.int .i64 334) ∧ w = w' := by
  have H := Lib.hid h
  clear h
  go_enter Try.func35, Try.ntmps35
  go_wp2_with (go_at_call 16; refine (leap_is y false H.out _).mono ?_; rintro e w' ⟨rfl, rfl⟩)
  go_ret
  exact ⟨rfl, rfl⟩

theorem ahead_11t (y : Int) (w : World) (h : lpB y = true) : Calls Try.prog 35 #[.int .i64 y, .int .i64 11] w fun e w' => e = .returned (.int .i64 305) ∧ w = w' := by
  have H := Lib.hid h
  clear h
  go_enter Try.func35, Try.ntmps35
  go_wp2_with (go_at_call 16; refine (leap_is y true H.out _).mono ?_; rintro e w' ⟨rfl, rfl⟩)
  go_ret
  exact ⟨rfl, rfl⟩

theorem ahead_11f (y : Int) (w : World) (h : lpB y = false) : Calls Try.prog 35 #[.int .i64 y, .int .i64 11] w fun e w' => e = .returned (.int .i64 304) ∧ w = w' := by
  have H := Lib.hid h
  clear h
  go_enter Try.func35, Try.ntmps35
  go_wp2_with (go_at_call 16; refine (leap_is y false H.out _).mono ?_; rintro e w' ⟨rfl, rfl⟩)
  go_ret
  exact ⟨rfl, rfl⟩

theorem ahead_10t (y : Int) (w : World) (h : lpB y = true) : Calls Try.prog 35 #[.int .i64 y, .int .i64 10] w fun e w' => e = .returned (.int .i64 274) ∧ w = w' := by
  have H := Lib.hid h
  clear h
  go_enter Try.func35, Try.ntmps35
  go_wp2_with (go_at_call 16; refine (leap_is y true H.out _).mono ?_; rintro e w' ⟨rfl, rfl⟩)
  go_ret
  exact ⟨rfl, rfl⟩

theorem ahead_10f (y : Int) (w : World) (h : lpB y = false) : Calls Try.prog 35 #[.int .i64 y, .int .i64 10] w fun e w' => e = .returned (.int .i64 273) ∧ w = w' := by
  have H := Lib.hid h
  clear h
  go_enter Try.func35, Try.ntmps35
  go_wp2_with (go_at_call 16; refine (leap_is y false H.out _).mono ?_; rintro e w' ⟨rfl, rfl⟩)
  go_ret
  exact ⟨rfl, rfl⟩

theorem ahead_9t (y : Int) (w : World) (h : lpB y = true) : Calls Try.prog 35 #[.int .i64 y, .int .i64 9] w fun e w' => e = .returned (.int .i64 244) ∧ w = w' := by
  have H := Lib.hid h
  clear h
  go_enter Try.func35, Try.ntmps35
  go_wp2_with (go_at_call 16; refine (leap_is y true H.out _).mono ?_; rintro e w' ⟨rfl, rfl⟩)
  go_ret
  exact ⟨rfl, rfl⟩

theorem ahead_9f (y : Int) (w : World) (h : lpB y = false) : Calls Try.prog 35 #[.int .i64 y, .int .i64 9] w fun e w' => e = .returned (.int .i64 243) ∧ w = w' := by
  have H := Lib.hid h
  clear h
  go_enter Try.func35, Try.ntmps35
  go_wp2_with (go_at_call 16; refine (leap_is y false H.out _).mono ?_; rintro e w' ⟨rfl, rfl⟩)
  go_ret
  exact ⟨rfl, rfl⟩

theorem ahead_8t (y : Int) (w : World) (h : lpB y = true) : Calls Try.prog 35 #[.int .i64 y, .int .i64 8] w fun e w' => e = .returned (.int .i64 213) ∧ w = w' := by
  have H := Lib.hid h
  clear h
  go_enter Try.func35, Try.ntmps35
  go_wp2_with (go_at_call 16; refine (leap_is y true H.out _).mono ?_; rintro e w' ⟨rfl, rfl⟩)
  go_ret
  exact ⟨rfl, rfl⟩

theorem ahead_8f (y : Int) (w : World) (h : lpB y = false) : Calls Try.prog 35 #[.int .i64 y, .int .i64 8] w fun e w' => e = .returned (.int .i64 212) ∧ w = w' := by
  have H := Lib.hid h
  clear h
  go_enter Try.func35, Try.ntmps35
  go_wp2_with (go_at_call 16; refine (leap_is y false H.out _).mono ?_; rintro e w' ⟨rfl, rfl⟩)
  go_ret
  exact ⟨rfl, rfl⟩

theorem ahead_7t (y : Int) (w : World) (h : lpB y = true) : Calls Try.prog 35 #[.int .i64 y, .int .i64 7] w fun e w' => e = .returned (.int .i64 182) ∧ w = w' := by
  have H := Lib.hid h
  clear h
  go_enter Try.func35, Try.ntmps35
  go_wp2_with (go_at_call 16; refine (leap_is y true H.out _).mono ?_; rintro e w' ⟨rfl, rfl⟩)
  go_ret
  exact ⟨rfl, rfl⟩

theorem ahead_7f (y : Int) (w : World) (h : lpB y = false) : Calls Try.prog 35 #[.int .i64 y, .int .i64 7] w fun e w' => e = .returned (.int .i64 181) ∧ w = w' := by
  have H := Lib.hid h
  clear h
  go_enter Try.func35, Try.ntmps35
  go_wp2_with (go_at_call 16; refine (leap_is y false H.out _).mono ?_; rintro e w' ⟨rfl, rfl⟩)
  go_ret
  exact ⟨rfl, rfl⟩

theorem ahead_6t (y : Int) (w : World) (h : lpB y = true) : Calls Try.prog 35 #[.int .i64 y, .int .i64 6] w fun e w' => e = .returned (.int .i64 152) ∧ w = w' := by
  have H := Lib.hid h
  clear h
  go_enter Try.func35, Try.ntmps35
  go_wp2_with (go_at_call 16; refine (leap_is y true H.out _).mono ?_; rintro e w' ⟨rfl, rfl⟩)
  go_ret
  exact ⟨rfl, rfl⟩

theorem ahead_6f (y : Int) (w : World) (h : lpB y = false) : Calls Try.prog 35 #[.int .i64 y, .int .i64 6] w fun e w' => e = .returned (.int .i64 151) ∧ w = w' := by
  have H := Lib.hid h
  clear h
  go_enter Try.func35, Try.ntmps35
  go_wp2_with (go_at_call 16; refine (leap_is y false H.out _).mono ?_; rintro e w' ⟨rfl, rfl⟩)
  go_ret
  exact ⟨rfl, rfl⟩

theorem ahead_5t (y : Int) (w : World) (h : lpB y = true) : Calls Try.prog 35 #[.int .i64 y, .int .i64 5] w fun e w' => e = .returned (.int .i64 121) ∧ w = w' := by
  have H := Lib.hid h
  clear h
  go_enter Try.func35, Try.ntmps35
  go_wp2_with (go_at_call 16; refine (leap_is y true H.out _).mono ?_; rintro e w' ⟨rfl, rfl⟩)
  go_ret
  exact ⟨rfl, rfl⟩

theorem ahead_5f (y : Int) (w : World) (h : lpB y = false) : Calls Try.prog 35 #[.int .i64 y, .int .i64 5] w fun e w' => e = .returned (.int .i64 120) ∧ w = w' := by
  have H := Lib.hid h
  clear h
  go_enter Try.func35, Try.ntmps35
  go_wp2_with (go_at_call 16; refine (leap_is y false H.out _).mono ?_; rintro e w' ⟨rfl, rfl⟩)
  go_ret
  exact ⟨rfl, rfl⟩

theorem ahead_4t (y : Int) (w : World) (h : lpB y = true) : Calls Try.prog 35 #[.int .i64 y, .int .i64 4] w fun e w' => e = .returned (.int .i64 91) ∧ w = w' := by
  have H := Lib.hid h
  clear h
  go_enter Try.func35, Try.ntmps35
  go_wp2_with (go_at_call 16; refine (leap_is y true H.out _).mono ?_; rintro e w' ⟨rfl, rfl⟩)
  go_ret
  exact ⟨rfl, rfl⟩

theorem ahead_4f (y : Int) (w : World) (h : lpB y = false) : Calls Try.prog 35 #[.int .i64 y, .int .i64 4] w fun e w' => e = .returned (.int .i64 90) ∧ w = w' := by
  have H := Lib.hid h
  clear h
  go_enter Try.func35, Try.ntmps35
  go_wp2_with (go_at_call 16; refine (leap_is y false H.out _).mono ?_; rintro e w' ⟨rfl, rfl⟩)
  go_ret
  exact ⟨rfl, rfl⟩

theorem ahead_3t (y : Int) (w : World) (h : lpB y = true) : Calls Try.prog 35 #[.int .i64 y, .int .i64 3] w fun e w' => e = .returned (.int .i64 60) ∧ w = w' := by
  have H := Lib.hid h
  clear h
  go_enter Try.func35, Try.ntmps35
  go_wp2_with (go_at_call 16; refine (leap_is y true H.out _).mono ?_; rintro e w' ⟨rfl, rfl⟩)
  go_ret
  exact ⟨rfl, rfl⟩

theorem ahead_3f (y : Int) (w : World) (h : lpB y = false) : Calls Try.prog 35 #[.int .i64 y, .int .i64 3] w fun e w' => e = .returned (.int .i64 59) ∧ w = w' := by
  have H := Lib.hid h
  clear h
  go_enter Try.func35, Try.ntmps35
  go_wp2_with (go_at_call 16; refine (leap_is y false H.out _).mono ?_; rintro e w' ⟨rfl, rfl⟩)
  go_ret
  exact ⟨rfl, rfl⟩

theorem ahead_2 (y : Int) (w : World) : Calls Try.prog 35 #[.int .i64 y, .int .i64 2] w fun e w' => e = .returned (.int .i64 31) ∧ w = w' := by
  go_enter Try.func35, Try.ntmps35
  go_wp2
  go_ret
  exact ⟨rfl, rfl⟩
theorem ahead_lo (y m : Int) (w : World) (h : m < 2) : Calls Try.prog 35 #[.int .i64 y, .int .i64 m] w fun e w' => e = .returned (.int .i64 0) ∧ w = w' := by
  go_enter Try.func35, Try.ntmps35
  go_wp2
  go_ret
  exact ⟨rfl, rfl⟩
theorem ahead_hi (y m : Int) (w : World) (h : 13 < m) : Calls Try.prog 35 #[.int .i64 y, .int .i64 m] w fun e w' => e = .returned (.int .i64 0) ∧ w = w' := by
  go_enter Try.func35, Try.ntmps35
  go_wp2
  go_ret
  exact ⟨rfl, rfl⟩
theorem ahead_any (y m : Int) (w : World) : Calls Try.prog 35 #[.int .i64 y, .int .i64 m] w fun e w' => e = .returned (.int .i64 (ahd y m)) ∧ w = w' := by
  by_cases h0 : m < 2
  · have e : ahd y m = 0 := by unfold ahd; repeat (rw [if_neg (by omega)])
    rw [e]; exact ahead_lo y m w h0
  by_cases h1 : 13 < m
  · have e : ahd y m = 0 := by unfold ahd; repeat (rw [if_neg (by omega)])
    rw [e]; exact ahead_hi y m w h1
  have hm : m = 13 ∨ m = 12 ∨ m = 11 ∨ m = 10 ∨ m = 9 ∨ m = 8 ∨ m = 7 ∨ m = 6 ∨ m = 5 ∨ m = 4 ∨ m = 3 ∨ m = 2 := by omega
  clear h0 h1
  rcases Bool.eq_false_or_eq_true (lpB y) with h | h
  · have l : lp y = 1 := by unfold lp; rw [if_pos h]
    rcases hm with rfl | rfl | rfl | rfl | rfl | rfl | rfl | rfl | rfl | rfl | rfl | rfl
    · rw [show ahd y 13 = 366 by simp [ahd, l]]; exact ahead_13t y w h
    · rw [show ahd y 12 = 335 by simp [ahd, l]]; exact ahead_12t y w h
    · rw [show ahd y 11 = 305 by simp [ahd, l]]; exact ahead_11t y w h
    · rw [show ahd y 10 = 274 by simp [ahd, l]]; exact ahead_10t y w h
    · rw [show ahd y 9 = 244 by simp [ahd, l]]; exact ahead_9t y w h
    · rw [show ahd y 8 = 213 by simp [ahd, l]]; exact ahead_8t y w h
    · rw [show ahd y 7 = 182 by simp [ahd, l]]; exact ahead_7t y w h
    · rw [show ahd y 6 = 152 by simp [ahd, l]]; exact ahead_6t y w h
    · rw [show ahd y 5 = 121 by simp [ahd, l]]; exact ahead_5t y w h
    · rw [show ahd y 4 = 91 by simp [ahd, l]]; exact ahead_4t y w h
    · rw [show ahd y 3 = 60 by simp [ahd, l]]; exact ahead_3t y w h
    · rw [show ahd y 2 = 31 by simp [ahd]]; exact ahead_2 y w
  · have l : lp y = 0 := by unfold lp; rw [h]; rfl
    rcases hm with rfl | rfl | rfl | rfl | rfl | rfl | rfl | rfl | rfl | rfl | rfl | rfl
    · rw [show ahd y 13 = 365 by simp [ahd, l]]; exact ahead_13f y w h
    · rw [show ahd y 12 = 334 by simp [ahd, l]]; exact ahead_12f y w h
    · rw [show ahd y 11 = 304 by simp [ahd, l]]; exact ahead_11f y w h
    · rw [show ahd y 10 = 273 by simp [ahd, l]]; exact ahead_10f y w h
    · rw [show ahd y 9 = 243 by simp [ahd, l]]; exact ahead_9f y w h
    · rw [show ahd y 8 = 212 by simp [ahd, l]]; exact ahead_8f y w h
    · rw [show ahd y 7 = 181 by simp [ahd, l]]; exact ahead_7f y w h
    · rw [show ahd y 6 = 151 by simp [ahd, l]]; exact ahead_6f y w h
    · rw [show ahd y 5 = 120 by simp [ahd, l]]; exact ahead_5f y w h
    · rw [show ahd y 4 = 90 by simp [ahd, l]]; exact ahead_4f y w h
    · rw [show ahd y 3 = 59 by simp [ahd, l]]; exact ahead_3f y w h
    · rw [show ahd y 2 = 31 by simp [ahd]]; exact ahead_2 y w
end Go.Proofs.Ytghmmomlfhckgaa
