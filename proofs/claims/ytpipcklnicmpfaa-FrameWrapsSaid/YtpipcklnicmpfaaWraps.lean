/-
  FrameWraps: the walk.
-/
import Derived.Test.YtpipcklnicmpfaaEx
namespace Go.Proofs.Ytpipcklnicmpfaa
open Go.RowKit
set_option linter.unusedVariables false
set_option linter.unusedSimpArgs false
set_option maxHeartbeats 400000 in
theorem wraps_walk (h : Int) (h1 : -9223372036854775808 ≤ h) (h2 : h ≤ 9223372036854775807) (m : Int) (m1 : -9223372036854775808 ≤ m) (m2 : m ≤ 9223372036854775807) (s : ByteArray) (hs : s.size ≤ 9223372036854775807) {w : World} :
    Calls Try.prog 3 #[.int .i64 h, .int .i64 m, .string s] w fun v w' => v = .returned (.bool true) ∧ Below w.heap.size w w' := by
  obtain ⟨X, hX⟩ : ∃ X, wrapB h m s = X := ⟨_, rfl⟩
  obtain ⟨E, hE⟩ : ∃ E, wrapE h m s.size = E := ⟨_, rfl⟩
  have Q1 : Hid (∀ w, Calls Try.prog 9 #[.int .i64 h, .int .i64 m, .string s] w fun v w' => v = .returned (.tuple #[.string X, .int .i64 E]) ∧ Below w.heap.size w w') := Lib.hid fun w => by
    have := wrap_any h m s hs w
    unfold wrapW at this
    rwa [hX, hE] at this
  have Q2 : Hid (∀ w, Calls Try.prog 10 #[.int .i64 h, .int .i64 m, .string s] w fun v w' => v = .returned (.tuple #[.string X, .int .i64 E]) ∧ Below w.heap.size w w') := Lib.hid fun w => by
    have := rwrap_any h m s hs w
    unfold wrapW at this
    rwa [hX, hE] at this
  clear hX hE
  go_enter Try.func3, Try.ntmps3
  go_wp2_with (first
    | (go_at_call 8; refine (examples_ok _).mono ?_; rintro v w1 ⟨rfl, hb1⟩)
    | (go_at_call 9; refine (Q1.out _).mono ?_; rintro v w2 ⟨rfl, hb2⟩)
    | (go_at_call 10; refine (Q2.out _).mono ?_; rintro v w3 ⟨rfl, hb3⟩))
  go_ret
  have b2 := hb1.trans (hb2.mono hb1.size)
  exact ⟨rfl, b2.trans (hb3.mono b2.size)⟩
end Go.Proofs.Ytpipcklnicmpfaa
