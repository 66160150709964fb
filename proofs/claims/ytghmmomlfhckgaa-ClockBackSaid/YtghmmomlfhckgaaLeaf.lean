/-
  The clock's other small functions, each by its contract.
-/
import Derived.Test.YtghmmomlfhckgaaLeap
namespace Go.Proofs.Ytghmmomlfhckgaa
open Go.RowKit
set_option linter.unusedVariables false
set_option linter.unusedSimpArgs false
theorem begins_any (y : Int) (w : World) (h0 : 2000 ≤ y) (h1 : y ≤ 2100) : Calls Try.prog 34 #[.int .i64 y] w fun e w' => e = .returned (.int .i64 (bgn y)) ∧ w = w' := by
  go_enter Try.func34, Try.ntmps34
  go_wp2
  go_ret
  exact ⟨rfl, rfl⟩
theorem days_30 (y m : Int) (w : World) (h : m = 4 ∨ m = 6 ∨ m = 9 ∨ m = 11) : Calls Try.prog 37 #[.int .i64 y, .int .i64 m] w fun e w' => e = .returned (.int .i64 30) ∧ w = w' := by
  rcases h with rfl | rfl | rfl | rfl
  all_goals
    go_enter Try.func37, Try.ntmps37
    go_wp2
    go_ret
    exact ⟨rfl, rfl⟩
theorem days_2 (y : Int) (b : Bool) (w : World) (h : lpB y = b) : Calls Try.prog 37 #[.int .i64 y, .int .i64 2] w fun e w' => e = .returned (.int .i64 (if b = true then 29 else 28)) ∧ w = w' := by
  have H := Lib.hid h
  clear h
  cases b
  all_goals
    go_enter Try.func37, Try.ntmps37
    go_wp2_with (go_at_call 17; refine (rleap_is y _ H.out _).mono ?_; rintro e w' ⟨rfl, rfl⟩)
    go_ret
    exact ⟨rfl, rfl⟩
theorem days_31 (y m : Int) (w : World) (h1 : (m == 4) = false) (h2 : (m == 6) = false) (h3 : (m == 9) = false) (h4 : (m == 11) = false) (h5 : (m == 2) = false) : Calls Try.prog 37 #[.int .i64 y, .int .i64 m] w fun e w' => e = .returned (.int .i64 31) ∧ w = w' := by
  go_enter Try.func37, Try.ntmps37
  go_wp2
  go_ret
  exact ⟨rfl, rfl⟩
theorem days_any (y m : Int) (w : World) : Calls Try.prog 37 #[.int .i64 y, .int .i64 m] w fun e w' => e = .returned (.int .i64 (dim y m)) ∧ w = w' := by
  by_cases h : m = 4 ∨ m = 6 ∨ m = 9 ∨ m = 11
  · rw [show dim y m = 30 by unfold dim; rw [if_pos h]]; exact days_30 y m w h
  by_cases h2 : m = 2
  · subst h2
    have e : dim y 2 = if lpB y = true then 29 else 28 := by simp [dim, lp]; split <;> rfl
    rw [e]; exact days_2 y _ w rfl
  · rw [show dim y m = 31 by unfold dim; rw [if_neg h, if_neg h2]]
    exact days_31 y m w (by rw [beq_eq_false_iff_ne]; omega) (by rw [beq_eq_false_iff_ne]; omega) (by rw [beq_eq_false_iff_ne]; omega) (by rw [beq_eq_false_iff_ne]; omega) (by rw [beq_eq_false_iff_ne]; omega)

def farV (a b : Int) : Int := if a < b then b - a else a - b
theorem far_any (a b : Int) (w : World) (h0 : -1 ≤ a) (h1 : a ≤ 3155759999) (h2 : 0 ≤ b) (h3 : b ≤ 3155759999) : Calls Try.prog 40 #[.int .i64 a, .int .i64 b] w fun e w' => e = .returned (.int .i64 (farV a b)) ∧ w = w' := by
  by_cases h : a < b
  · go_enter Try.func40, Try.ntmps40
    go_wp2
    go_ret
    exact ⟨by unfold farV; rw [if_pos h]; rfl, rfl⟩
  · go_enter Try.func40, Try.ntmps40
    go_wp2
    go_ret
    exact ⟨by unfold farV; rw [if_neg (by omega)]; rfl, rfl⟩
theorem rfar_any (a b : Int) (w : World) (h0 : -1 ≤ a) (h1 : a ≤ 3155759999) (h2 : 0 ≤ b) (h3 : b ≤ 3155759999) : Calls Try.prog 42 #[.int .i64 a, .int .i64 b] w fun e w' => e = .returned (.int .i64 (farV a b)) ∧ w = w' := by
  by_cases h : a < b
  · go_enter Try.func42, Try.ntmps42
    go_wp2
    go_ret
    exact ⟨by unfold farV; rw [if_pos h]; rfl, rfl⟩
  · go_enter Try.func42, Try.ntmps42
    go_wp2
    go_ret
    exact ⟨by unfold farV; rw [if_neg (by omega)]; rfl, rfl⟩

theorem weekday_no (t : Int) (w : World) (h : t < 0 ∨ 3155759999 < t) : Calls Try.prog 23 #[.int .i64 t] w fun e w' => e = .returned (.tuple #[.int .i64 0, .int .i64 80]) ∧ w = w' := by
  rcases h with h | h
  all_goals
    go_enter Try.func23, Try.ntmps23
    go_wp2
    go_ret2
    exact ⟨rfl, rfl⟩
theorem weekday_ok (t : Int) (w : World) (h0 : 0 ≤ t) (h1 : t ≤ 3155759999) : Calls Try.prog 23 #[.int .i64 t] w fun e w' => e = .returned (.tuple #[.int .i64 ((t / 86400 + 5) % 7 + 1), .int .i64 0]) ∧ w = w' := by
  go_enter Try.func23, Try.ntmps23
  go_wp2
  go_ret2
  exact ⟨rfl, rfl⟩

theorem rweekday_no (t : Int) (w : World) (h : t < 0 ∨ 3155759999 < t) : Calls Try.prog 27 #[.int .i64 t] w fun e w' => e = .returned (.tuple #[.int .i64 0, .int .i64 80]) ∧ w = w' := by
  rcases h with h | h
  all_goals
    go_enter Try.func27, Try.ntmps27
    go_wp2
    go_ret2
    exact ⟨rfl, rfl⟩
theorem rweekday_ok (t : Int) (w : World) (h0 : 0 ≤ t) (h1 : t ≤ 3155759999) : Calls Try.prog 27 #[.int .i64 t] w fun e w' => e = .returned (.tuple #[.int .i64 ((t / 86400 + 5) % 7 + 1), .int .i64 0]) ∧ w = w' := by
  go_enter Try.func27, Try.ntmps27
  go_wp2
  go_ret2
  exact ⟨rfl, rfl⟩

def pickP (c n : Int) : Int := if c < 0 then (-(c + 1)) % n else c % n
theorem pickP_lo (c n : Int) (hn : 0 < n) : 0 ≤ pickP c n := by unfold pickP; split <;> exact Int.emod_nonneg _ (by omega)
theorem pickP_hi (c n : Int) (hn : 0 < n) : pickP c n < n := by unfold pickP; split <;> exact Int.emod_lt_of_pos _ hn
set_option maxHeartbeats 400000 in
theorem pick_any (c n : Int) (w : World) (h1 : -9223372036854775808 ≤ c) (h2 : c ≤ 9223372036854775807) (hn : 0 < n) (hm : n ≤ 9223372036854775807) :
    Calls Try.prog 32 #[.int .i64 c, .int .i64 n] w fun e w' => e = .returned (.int .i64 (pickP c n)) ∧ w = w' := by
  by_cases hc : c < 0
  · have h0 : 0 ≤ -(c + 1) := by omega
    go_enter Try.func32, Try.ntmps32
    go_wp2
    go_ret
    exact ⟨by unfold pickP; rw [if_pos hc, ← Int.tmod_eq_emod_of_nonneg h0, Int.neg_tmod]; rfl, rfl⟩
  · have h0 : 0 ≤ c := by omega
    go_enter Try.func32, Try.ntmps32
    go_wp2
    go_ret
    exact ⟨by unfold pickP; rw [if_neg (by omega)]; rfl, rfl⟩
theorem pick_is (c n r : Int) (w : World) (h1 : -9223372036854775808 ≤ c) (h2 : c ≤ 9223372036854775807) (hn : 0 < n) (hm : n ≤ 9223372036854775807) (hp : pickP c n = r) :
    Calls Try.prog 32 #[.int .i64 c, .int .i64 n] w fun e w' => e = .returned (.int .i64 r) ∧ w = w' := by
  subst hp; exact pick_any c n w h1 h2 hn hm
theorem moment_is (c r : Int) (w : World) (h1 : -9223372036854775808 ≤ c) (h2 : c ≤ 9223372036854775807) (hp : pickP c 3155760000 = r) :
    Calls Try.prog 20 #[.int .i64 c] w fun e w' => e = .returned (.int .i64 r) ∧ w = w' := by
  go_enter Try.func20, Try.ntmps20
  go_wp2_with (go_at_call 32; refine (pick_is c 3155760000 r _ h1 h2 (by omega) (by omega) hp).mono ?_; rintro e w' ⟨rfl, rfl⟩)
  go_ret
  exact ⟨rfl, rfl⟩
end Go.Proofs.Ytghmmomlfhckgaa
