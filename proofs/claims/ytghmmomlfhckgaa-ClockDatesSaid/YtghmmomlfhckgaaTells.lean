/-
  ClockTells: the walk.
-/
import Derived.Test.YtghmmomlfhckgaaEx
namespace Go.Proofs.Ytghmmomlfhckgaa
open Go.RowKit
set_option linter.unusedVariables false
set_option linter.unusedSimpArgs false
def inT (t : Int) : Prop := 0 ≤ t ∧ t ≤ 3155759999
instance (t : Int) : Decidable (inT t) := by unfold inT; infer_instance
def wdT (t : Int) : Int := if inT t then (t / 86400 + 5) % 7 + 1 else 0
def tE (t : Int) : Int := if inT t then 0 else 80
noncomputable def stT (t : Int) : ByteArray := if inT t then stampOf t else { data := #[] }
noncomputable def juT (t : Int) : ByteArray := if inT t then julOf t else { data := #[] }
theorem weekday_any (t : Int) (w : World) : Calls Try.prog 23 #[.int .i64 t] w fun e w' => e = .returned (.tuple #[.int .i64 (wdT t), .int .i64 (tE t)]) ∧ w = w' := by
  unfold wdT tE
  by_cases h : inT t
  · rw [if_pos h, if_pos h]; exact weekday_ok t w h.1 h.2
  · rw [if_neg h, if_neg h]; exact weekday_no t w (by unfold inT at h; omega)
theorem rweekday_any (t : Int) (w : World) : Calls Try.prog 27 #[.int .i64 t] w fun e w' => e = .returned (.tuple #[.int .i64 (wdT t), .int .i64 (tE t)]) ∧ w = w' := by
  unfold wdT tE
  by_cases h : inT t
  · rw [if_pos h, if_pos h]; exact rweekday_ok t w h.1 h.2
  · rw [if_neg h, if_neg h]; exact rweekday_no t w (by unfold inT at h; omega)
theorem stamp_any (t : Int) (w : World) : Calls Try.prog 22 #[.int .i64 t] w fun e w' => e = .returned (.tuple #[.string (stT t), .int .i64 (tE t)]) ∧ Below w.heap.size w w' := by
  unfold stT tE
  by_cases h : inT t
  · rw [if_pos h, if_pos h]; exact stamp_is t w h.1 h.2
  · rw [if_neg h, if_neg h]; exact stamp_no t w (by unfold inT at h; omega)
theorem rstamp_any (t : Int) (w : World) : Calls Try.prog 28 #[.int .i64 t] w fun e w' => e = .returned (.tuple #[.string (stT t), .int .i64 (tE t)]) ∧ Below w.heap.size w w' := by
  unfold stT tE
  by_cases h : inT t
  · rw [if_pos h, if_pos h]; exact rstamp_is t w h.1 h.2
  · rw [if_neg h, if_neg h]; exact rstamp_no t w (by unfold inT at h; omega)
theorem julian_any (t : Int) (w : World) : Calls Try.prog 24 #[.int .i64 t] w fun e w' => e = .returned (.tuple #[.string (juT t), .int .i64 (tE t)]) ∧ Below w.heap.size w w' := by
  unfold juT tE
  by_cases h : inT t
  · rw [if_pos h, if_pos h]; exact julian_is t w h.1 h.2
  · rw [if_neg h, if_neg h]; exact julian_no t w (by unfold inT at h; omega)
theorem rjulian_any (t : Int) (w : World) : Calls Try.prog 29 #[.int .i64 t] w fun e w' => e = .returned (.tuple #[.string (juT t), .int .i64 (tE t)]) ∧ Below w.heap.size w w' := by
  unfold juT tE
  by_cases h : inT t
  · rw [if_pos h, if_pos h]; exact rjulian_is t w h.1 h.2
  · rw [if_neg h, if_neg h]; exact rjulian_no t w (by unfold inT at h; omega)
set_option maxRecDepth 100000 in
set_option maxHeartbeats 3200000 in
theorem tells_walk (t : Int) (_ : -9223372036854775808 ≤ t) (_ : t ≤ 9223372036854775807) (hr : Int) (_ : -9223372036854775808 ≤ hr) (_ : hr ≤ 9223372036854775807) {w : World} : Calls Try.prog 9 #[.int .i64 t, .int .i64 hr] w fun e w' => e = .returned (.bool true) ∧ Below w.heap.size w w' := by
  go_enter Try.func9, Try.ntmps9
  go_wp2_with (first
    | (go_at_call 11; refine (examples_ok _).mono ?_; rintro e w1 ⟨rfl, hb1⟩)
    | (go_at_call 23; refine (weekday_any t _).mono ?_; rintro e w' ⟨rfl, rfl⟩)
    | (go_at_call 27; refine (rweekday_any t _).mono ?_; rintro e w' ⟨rfl, rfl⟩)
    | (go_at_call 22; refine (stamp_any t _).mono ?_; rintro e w2 ⟨rfl, hb2⟩)
    | (go_at_call 28; refine (rstamp_any t _).mono ?_; rintro e w3 ⟨rfl, hb3⟩)
    | (go_at_call 24; refine (julian_any t _).mono ?_; rintro e w4 ⟨rfl, hb4⟩)
    | (go_at_call 29; refine (rjulian_any t _).mono ?_; rintro e w5 ⟨rfl, hb5⟩)
    | (go_at_call 30; refine (business_any t hr _).mono ?_; rintro e w6 ⟨rfl, hb6⟩)
    | (go_at_call 31; refine (rbusiness_any t hr _).mono ?_; rintro e w7 ⟨rfl, hb7⟩))
  have i2 := hb1.trans (hb2.mono hb1.size)
  have i3 := i2.trans (hb3.mono i2.size)
  have i4 := i3.trans (hb4.mono i3.size)
  have i5 := i4.trans (hb5.mono i4.size)
  have i6 := i5.trans (hb6.mono i5.size)
  have i7 := i6.trans (hb7.mono i6.size)
  go_ret
  exact ⟨rfl, i7⟩
end Go.Proofs.Ytghmmomlfhckgaa
