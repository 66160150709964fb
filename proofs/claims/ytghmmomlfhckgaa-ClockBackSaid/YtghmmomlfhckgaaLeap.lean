/-
  The clock's small functions, each by its contract: Leap, ahead, begins, Days, far, Weekday, pick, moment.
-/
import Derived.Test.YtghmmomlfhckgaaRows
import Derived.Test.YtghmmomlfhckgaaMath
import Derived.WalkKit
import Derived.WalkSpells
import Derived.WalkLawsBesides
import Derived.Below
import Derived.Laws.OwnMore
import Derived.Laws.Rows
import Derived.Deep.Draws
import Derived.Deep.QuietTactic
import Derived.BigQuiet
import Derived.Deep.RegionWith
import Derived.Lib.Hide
namespace Go.Proofs.Ytghmmomlfhckgaa
open Go.RowKit
set_option linter.unusedVariables false
set_option linter.unusedSimpArgs false

set_option maxHeartbeats 400000 in
theorem leap_any (y : Int) (w : World) : Calls Try.prog 16 #[.int .i64 y] w fun e w' => e = .returned (.bool (lpB y)) ∧ w = w' := by
  rcases Bool.eq_false_or_eq_true (y.tmod 4 == 0) with h1 | h1 <;> rcases Bool.eq_false_or_eq_true (y.tmod 100 == 0) with h2 | h2 <;> rcases Bool.eq_false_or_eq_true (y.tmod 400 == 0) with h3 | h3
  all_goals
    have e : lpB y = ((y.tmod 4 == 0 && y.tmod 100 != 0) || y.tmod 400 == 0) := rfl
    have h4 : (y.tmod 100 != 0) = !(y.tmod 100 == 0) := rfl
    rw [h2] at h4
    simp only [Bool.not_true, Bool.not_false] at h4
    rw [h1, h4, h3] at e
    have E := Lib.hid e
    clear e h2
    go_enter Try.func16, Try.ntmps16
    go_wp2
    go_ret
    exact ⟨by rw [E.out]; rfl, rfl⟩
theorem leap_is (y : Int) (b : Bool) (h : lpB y = b) (w : World) : Calls Try.prog 16 #[.int .i64 y] w fun e w' => e = .returned (.bool b) ∧ w = w' := by
  subst h; exact leap_any y w

set_option maxHeartbeats 400000 in
theorem rleap_any (y : Int) (w : World) : Calls Try.prog 17 #[.int .i64 y] w fun e w' => e = .returned (.bool (lpB y)) ∧ w = w' := by
  rcases Bool.eq_false_or_eq_true (y.tmod 4 == 0) with h1 | h1 <;> rcases Bool.eq_false_or_eq_true (y.tmod 100 == 0) with h2 | h2 <;> rcases Bool.eq_false_or_eq_true (y.tmod 400 == 0) with h3 | h3
  all_goals
    have e : lpB y = ((y.tmod 4 == 0 && y.tmod 100 != 0) || y.tmod 400 == 0) := rfl
    have h4 : (y.tmod 100 != 0) = !(y.tmod 100 == 0) := rfl
    rw [h2] at h4
    simp only [Bool.not_true, Bool.not_false] at h4
    rw [h1, h4, h3] at e
    have E := Lib.hid e
    clear e h2
    go_enter Try.func17, Try.ntmps17
    go_wp2
    go_ret
    exact ⟨by rw [E.out]; rfl, rfl⟩
theorem rleap_is (y : Int) (b : Bool) (h : lpB y = b) (w : World) : Calls Try.prog 17 #[.int .i64 y] w fun e w' => e = .returned (.bool b) ∧ w = w' := by
  subst h; exact rleap_any y w
end Go.Proofs.Ytghmmomlfhckgaa
