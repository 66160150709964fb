/-
  ClockBack: the walk, one case.
-/
import Derived.Test.YtghmmomlfhckgaaBack
import Derived.Laws.Cover1
import Derived.Deep.Cut
namespace Go.Proofs.Ytghmmomlfhckgaa
open Go.RowKit
set_option linter.unusedVariables false
set_option linter.unusedSimpArgs false
set_option maxRecDepth 100000 in
set_option maxHeartbeats 12800000 in
theorem back_d (raw n N y m d h i s wd : Int) (st j t : ByteArray) (y0 : 2000 ≤ y) (y1 : y ≤ 2099) (m0 : 1 ≤ m) (m1 : m ≤ 12) (d0 : 1 ≤ d) (d1 : d ≤ 31) (n0 : 0 ≤ n) (n1 : n ≤ 3155759999) (w0 : 1 ≤ wd) (w1 : wd ≤ 7) (hs : st.size = 10) (hj : j.size = 4) (ht : t.size = 4)
    (hN : IntKind.i64.wrap (n + 86400) = N) (hg : decide (3155759999 < N) = false)
    (M : Hid (∀ w, Calls Try.prog 20 #[.int .i64 raw] w fun e w' => e = .returned (.int .i64 n) ∧ w = w'))
    (D : Hid (∀ w, Calls Try.prog 14 #[.int .i64 n] w fun e w' => e = .returned (.tuple #[.agg #[.int .i64 y, .int .i64 m, .int .i64 d, .int .i64 h, .int .i64 i, .int .i64 s], .int .i64 0]) ∧ Below w.heap.size w w'))
    (O : Hid (∀ w, Calls Try.prog 12 #[.agg #[.int .i64 y, .int .i64 m, .int .i64 d, .int .i64 h, .int .i64 i, .int .i64 s]] w fun e w' => e = .returned (.tuple #[.int .i64 n, .int .i64 0]) ∧ Below w.heap.size w w'))
    (S : Hid (∀ w, Calls Try.prog 22 #[.int .i64 n] w fun e w' => e = .returned (.tuple #[.string st, .int .i64 0]) ∧ Below w.heap.size w w'))
    (R : Hid (∀ w, Calls Try.prog 18 #[.string st, .int .i64 n] w fun e w' => e = .returned (.tuple #[.int .i64 n, .int .i64 0]) ∧ Below w.heap.size w w'))
    (W : Hid (∀ w, Calls Try.prog 23 #[.int .i64 n] w fun e w' => e = .returned (.tuple #[.int .i64 wd, .int .i64 0]) ∧ w = w'))
    (U : Hid (∀ w, Calls Try.prog 24 #[.int .i64 n] w fun e w' => e = .returned (.tuple #[.string j, .int .i64 0]) ∧ Below w.heap.size w w'))
    (D2 : Hid (∀ w, Calls Try.prog 14 #[.int .i64 N] w fun e w' => e = .returned (.tuple #[.agg #[.int .i64 (y + 1), .int .i64 (1), .int .i64 (1), .int .i64 h, .int .i64 i, .int .i64 s], .int .i64 0]) ∧ Below w.heap.size w w'))
    (W2 : Hid (∀ w, Calls Try.prog 23 #[.int .i64 N] w fun e w' => e = .returned (.tuple #[.int .i64 (wd % 7 + 1), .int .i64 0]) ∧ w = w'))
    (U2 : Hid (∀ w, Calls Try.prog 24 #[.int .i64 N] w fun e w' => e = .returned (.tuple #[.string t, .int .i64 0]) ∧ Below w.heap.size w w'))
    (hq : ((t.extract 1 4).toList == [48, 48, 49]) = true) (t1 : ((1 : Int) == d + 1) = false) (t2 : (y + 1 == y) = false)
    (w : World) : Calls Try.prog 7 #[.int .i64 raw] w fun e w' => e = .returned (.bool true) ∧ Below w.heap.size w w' := by
  have T : wd.tmod 7 = wd % 7 := Int.tmod_eq_emod_of_nonneg (by omega)
  go_enter Try.func7, Try.ntmps7
  go_upto_region 18 with (first
    | (go_at_call 11; refine (examples_ok _).mono ?_; rintro e w1 ⟨rfl, hb1⟩)
    | (go_at_call 20; refine (M.out _).mono ?_; rintro e w' ⟨rfl, rfl⟩)
    | (go_at_call_of 14 (Value.int IntKind.i64 n); refine (D.out _).mono ?_; rintro e w2 ⟨rfl, hb2⟩; have i2 := hb1.trans (hb2.mono hb1.size); have hX := Blk.new w2 23 #[.int .i64 y, .int .i64 m, .int .i64 d, .int .i64 h, .int .i64 i, .int .i64 s]; have i3 := i2.alloc i2.size (.cells #[.int .i64 y, .int .i64 m, .int .i64 d, .int .i64 h, .int .i64 i, .int .i64 s] 23))
    | (go_at_call 12; refine (O.out _).mono ?_; rintro e w3 ⟨rfl, hb3⟩; have hX3 := hX.below hb3 hX.lt; have i4 := i3.trans (hb3.mono i3.size))
    | (go_at_call 22; refine (S.out _).mono ?_; rintro e w4 ⟨rfl, hb4⟩; have hX4 := hX3.below hb4 hX3.lt; have i5 := i4.trans (hb4.mono i4.size))
    | (go_at_call 18; refine (R.out _).mono ?_; rintro e w5 ⟨rfl, hb5⟩; have hX5 := hX4.below hb5 hX4.lt; have i6 := i5.trans (hb5.mono i5.size))
    | (go_at_call_of 23 (Value.int IntKind.i64 n); refine (W.out _).mono ?_; rintro e w' ⟨rfl, rfl⟩)
    | (go_at_call_of 24 (Value.int IntKind.i64 n); refine (U.out _).mono ?_; rintro e w6 ⟨rfl, hb6⟩; have hX6 := hX5.below hb6 hX5.lt; have i7 := i6.trans (hb6.mono i6.size))
    | (go_at_call_of 14 (Value.int IntKind.i64 N); refine (D2.out _).mono ?_; rintro e w7 ⟨rfl, hb7⟩; have hX7 := hX6.below hb7 hX6.lt; have i8 := i7.trans (hb7.mono i7.size); have hX8 := hX7.alloc (.cells #[.int .i64 (y + 1), .int .i64 (1), .int .i64 (1), .int .i64 h, .int .i64 i, .int .i64 s] 23); have hY := Blk.new w7 23 #[.int .i64 (y + 1), .int .i64 (1), .int .i64 (1), .int .i64 h, .int .i64 i, .int .i64 s]; have i9 := i8.alloc i8.size (.cells #[.int .i64 (y + 1), .int .i64 (1), .int .i64 (1), .int .i64 h, .int .i64 i, .int .i64 s] 23))
    | (go_at_call_of 23 (Value.int IntKind.i64 N); refine (W2.out _).mono ?_; rintro e w' ⟨rfl, rfl⟩)
    | (go_at_call_of 24 (Value.int IntKind.i64 N); refine (U2.out _).mono ?_; rintro e w8 ⟨rfl, hb8⟩; have hX9 := hX8.below hb8 hX8.lt; have hY9 := hY.below hb8 hY.lt; have i10 := i9.trans (hb8.mono i9.size); have x0 := hX9.cell 0; have x1 := hX9.cell 1; have x2 := hX9.cell 2; have x3 := hX9.cell 3; have x4 := hX9.cell 4; have x5 := hX9.cell 5; have y0 := hY9.cell 0; have y1 := hY9.cell 1; have y2 := hY9.cell 2; have y3 := hY9.cell 3; have y4 := hY9.cell 4; have y5 := hY9.cell 5; simp at x0 x1 x2 x3 x4 x5 y0 y1 y2 y3 y4 y5))
  clear hX hX3 hX4 hX5 hX6 hX7 hX8 hY hX9 hY9 hb1 hb2 hb3 hb4 hb5 hb6 hb7 hb8 i2 i3 i4 i5 i6 i7 i8 i9 M D O S R W U D2 W2 U2 hs hj hN hg n0 n1 w0 w1
  go_wp2
  all_goals
    go_ret
    exact ⟨rfl, i10⟩
end Go.Proofs.Ytghmmomlfhckgaa
