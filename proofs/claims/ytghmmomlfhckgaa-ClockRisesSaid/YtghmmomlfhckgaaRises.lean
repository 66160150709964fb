/-
  ClockRises: the plain law and the walk.
-/
import Derived.Test.YtghmmomlfhckgaaOrderA
import Derived.Test.YtghmmomlfhckgaaOrderB
import Derived.Test.YtghmmomlfhckgaaOrderC
import Derived.Test.YtghmmomlfhckgaaOrderD
namespace Go.Proofs.Ytghmmomlfhckgaa
open Go.RowKit
set_option linter.unusedVariables false
set_option linter.unusedSimpArgs false

/-- The first six numbers stand ahead of the others. -/
def lexL (a0 a1 a2 a3 a4 a5 b0 b1 b2 b3 b4 b5 : Int) : Prop := (a0 < b0) ∨ (a0 = b0 ∧ a1 < b1) ∨ (a0 = b0 ∧ a1 = b1 ∧ a2 < b2) ∨ (a0 = b0 ∧ a1 = b1 ∧ a2 = b2 ∧ a3 < b3) ∨ (a0 = b0 ∧ a1 = b1 ∧ a2 = b2 ∧ a3 = b3 ∧ a4 < b4) ∨ (a0 = b0 ∧ a1 = b1 ∧ a2 = b2 ∧ a3 = b3 ∧ a4 = b4 ∧ a5 < b5)
def OrdP (a0 a1 a2 a3 a4 a5 b0 b1 b2 b3 b4 b5 : Int) (w : World) (e : Ending) (w' : World) : Prop := ∃ V : Int, e = .returned (.int .i64 V) ∧ Below w.heap.size w w' ∧ ((V = -1 ∧ lexL a0 a1 a2 a3 a4 a5 b0 b1 b2 b3 b4 b5) ∨ (V = 0 ∧ (a0 = b0 ∧ a1 = b1 ∧ a2 = b2 ∧ a3 = b3 ∧ a4 = b4 ∧ a5 = b5)) ∨ (V = 1 ∧ lexL b0 b1 b2 b3 b4 b5 a0 a1 a2 a3 a4 a5))
theorem order_any (a0 a1 a2 a3 a4 a5 b0 b1 b2 b3 b4 b5 : Int) (w : World) : Calls Try.prog 21 #[.agg #[.int .i64 a0, .int .i64 a1, .int .i64 a2, .int .i64 a3, .int .i64 a4, .int .i64 a5], .agg #[.int .i64 b0, .int .i64 b1, .int .i64 b2, .int .i64 b3, .int .i64 b4, .int .i64 b5]] w (OrdP a0 a1 a2 a3 a4 a5 b0 b1 b2 b3 b4 b5 w) := by
  rcases Int.lt_trichotomy a0 b0 with h0 | h0 | h0
  · exact (order_lt0 a0 b0 a1 b1 a2 b2 a3 b3 a4 b4 a5 b5 w h0).mono fun e w' x => ⟨-1, x.1, x.2, .inl ⟨rfl, .inl (h0)⟩⟩
  rotate_left
  · exact (order_gt0 a0 b0 a1 b1 a2 b2 a3 b3 a4 b4 a5 b5 w h0).mono fun e w' x => ⟨1, x.1, x.2, .inr (.inr ⟨rfl, .inl (h0)⟩)⟩
  subst h0
  rcases Int.lt_trichotomy a1 b1 with h1 | h1 | h1
  · exact (order_lt1 a0 a1 b1 a2 b2 a3 b3 a4 b4 a5 b5 w h1).mono fun e w' x => ⟨-1, x.1, x.2, .inl ⟨rfl, .inr (.inl (⟨rfl, h1⟩))⟩⟩
  rotate_left
  · exact (order_gt1 a0 a1 b1 a2 b2 a3 b3 a4 b4 a5 b5 w h1).mono fun e w' x => ⟨1, x.1, x.2, .inr (.inr ⟨rfl, .inr (.inl (⟨rfl, h1⟩))⟩)⟩
  subst h1
  rcases Int.lt_trichotomy a2 b2 with h2 | h2 | h2
  · exact (order_lt2 a0 a1 a2 b2 a3 b3 a4 b4 a5 b5 w h2).mono fun e w' x => ⟨-1, x.1, x.2, .inl ⟨rfl, .inr (.inr (.inl (⟨rfl, rfl, h2⟩)))⟩⟩
  rotate_left
  · exact (order_gt2 a0 a1 a2 b2 a3 b3 a4 b4 a5 b5 w h2).mono fun e w' x => ⟨1, x.1, x.2, .inr (.inr ⟨rfl, .inr (.inr (.inl (⟨rfl, rfl, h2⟩)))⟩)⟩
  subst h2
  rcases Int.lt_trichotomy a3 b3 with h3 | h3 | h3
  · exact (order_lt3 a0 a1 a2 a3 b3 a4 b4 a5 b5 w h3).mono fun e w' x => ⟨-1, x.1, x.2, .inl ⟨rfl, .inr (.inr (.inr (.inl (⟨rfl, rfl, rfl, h3⟩))))⟩⟩
  rotate_left
  · exact (order_gt3 a0 a1 a2 a3 b3 a4 b4 a5 b5 w h3).mono fun e w' x => ⟨1, x.1, x.2, .inr (.inr ⟨rfl, .inr (.inr (.inr (.inl (⟨rfl, rfl, rfl, h3⟩))))⟩)⟩
  subst h3
  rcases Int.lt_trichotomy a4 b4 with h4 | h4 | h4
  · exact (order_lt4 a0 a1 a2 a3 a4 b4 a5 b5 w h4).mono fun e w' x => ⟨-1, x.1, x.2, .inl ⟨rfl, .inr (.inr (.inr (.inr (.inl (⟨rfl, rfl, rfl, rfl, h4⟩)))))⟩⟩
  rotate_left
  · exact (order_gt4 a0 a1 a2 a3 a4 b4 a5 b5 w h4).mono fun e w' x => ⟨1, x.1, x.2, .inr (.inr ⟨rfl, .inr (.inr (.inr (.inr (.inl (⟨rfl, rfl, rfl, rfl, h4⟩)))))⟩)⟩
  subst h4
  rcases Int.lt_trichotomy a5 b5 with h5 | h5 | h5
  · exact (order_lt5 a0 a1 a2 a3 a4 a5 b5 w h5).mono fun e w' x => ⟨-1, x.1, x.2, .inl ⟨rfl, .inr (.inr (.inr (.inr (.inr ((⟨rfl, rfl, rfl, rfl, rfl, h5⟩))))))⟩⟩
  rotate_left
  · exact (order_gt5 a0 a1 a2 a3 a4 a5 b5 w h5).mono fun e w' x => ⟨1, x.1, x.2, .inr (.inr ⟨rfl, .inr (.inr (.inr (.inr (.inr ((⟨rfl, rfl, rfl, rfl, rfl, h5⟩))))))⟩)⟩
  subst h5
  exact (order_eq6 a0 a1 a2 a3 a4 a5 w).mono fun e w' x => ⟨0, x.1, x.2, .inr (.inl ⟨rfl, rfl, rfl, rfl, rfl, rfl, rfl⟩)⟩
theorem parts (x : Int) (h0 : 0 ≤ x) (h1 : x ≤ 3155759999) : ∃ y m d h i s n, IsDay n y m d ∧ 0 ≤ h ∧ h ≤ 23 ∧ 0 ≤ i ∧ i ≤ 59 ∧ 0 ≤ s ∧ s ≤ 59 ∧ n * 86400 + h * 3600 + i * 60 + s = x ∧ ∀ w, Calls Try.prog 14 #[.int .i64 x] w fun e w' => e = .returned (.tuple #[.agg #[.int .i64 y, .int .i64 m, .int .i64 d, .int .i64 h, .int .i64 i, .int .i64 s], .int .i64 0]) ∧ Below w.heap.size w w' :=
  ⟨_, _, _, _, _, _, _, day_spec (x / 86400) (by omega) (by omega), by omega, by omega, by omega, by omega, by omega, by omega, by omega, fun w => date_is x w h0 h1⟩
theorem lex_lt {a0 a1 a2 a3 a4 a5 n b0 b1 b2 b3 b4 b5 n' x y : Int} (d : IsDay n a0 a1 a2) (d' : IsDay n' b0 b1 b2)
    (p0 : 0 ≤ a3) (p1 : a3 ≤ 23) (p2 : 0 ≤ a4) (p3 : a4 ≤ 59) (p4 : 0 ≤ a5) (p5 : a5 ≤ 59) (hx : n * 86400 + a3 * 3600 + a4 * 60 + a5 = x)
    (q0 : 0 ≤ b3) (q1 : b3 ≤ 23) (q2 : 0 ≤ b4) (q3 : b4 ≤ 59) (q4 : 0 ≤ b5) (q5 : b5 ≤ 59) (hy : n' * 86400 + b3 * 3600 + b4 * 60 + b5 = y)
    (h : lexL a0 a1 a2 a3 a4 a5 b0 b1 b2 b3 b4 b5) : x < y := by
  have y1 := d.in_year
  have y2 := d'.in_year
  have m1 := d.in_month
  have m2 := d'.in_month
  obtain ⟨u0, u1, u2, u3, u4, u5, u6⟩ := d
  obtain ⟨v0, v1, v2, v3, v4, v5, v6⟩ := d'
  rcases h with h | ⟨rfl, h⟩ | ⟨rfl, rfl, h⟩ | ⟨rfl, rfl, rfl, h⟩ | ⟨rfl, rfl, rfl, rfl, h⟩ | ⟨rfl, rfl, rfl, rfl, rfl, h⟩
  · have := bgn_mono (a0 + 1) b0 (by omega)
    omega
  · have := ahd_mono a0 (a1 + 1) b1 (by omega) (by omega) (by omega)
    omega
  all_goals omega
set_option maxRecDepth 100000 in
set_option maxHeartbeats 6400000 in
theorem rises_lt (p q x y : Int) (a0 a1 a2 a3 a4 a5 b0 b1 b2 b3 b4 b5 : Int) (hr : x < y) (EX : Hid (∀ w, Calls Try.prog 20 #[.int .i64 p] w fun e w' => e = .returned (.int .i64 x) ∧ w = w')) (EY : Hid (∀ w, Calls Try.prog 20 #[.int .i64 q] w fun e w' => e = .returned (.int .i64 y) ∧ w = w'))
    (K1 : Hid (∀ w, Calls Try.prog 14 #[.int .i64 x] w fun e w' => e = .returned (.tuple #[.agg #[.int .i64 a0, .int .i64 a1, .int .i64 a2, .int .i64 a3, .int .i64 a4, .int .i64 a5], .int .i64 0]) ∧ Below w.heap.size w w')) (K2 : Hid (∀ w, Calls Try.prog 14 #[.int .i64 y] w fun e w' => e = .returned (.tuple #[.agg #[.int .i64 b0, .int .i64 b1, .int .i64 b2, .int .i64 b3, .int .i64 b4, .int .i64 b5], .int .i64 0]) ∧ Below w.heap.size w w'))
    (K3 : Hid (∀ w, Calls Try.prog 21 #[.agg #[.int .i64 a0, .int .i64 a1, .int .i64 a2, .int .i64 a3, .int .i64 a4, .int .i64 a5], .agg #[.int .i64 b0, .int .i64 b1, .int .i64 b2, .int .i64 b3, .int .i64 b4, .int .i64 b5]] w fun e w' => e = .returned (.int .i64 (-1)) ∧ Below w.heap.size w w')) (w : World) : Calls Try.prog 5 #[.int .i64 p, .int .i64 q] w fun e w' => e = .returned (.bool true) ∧ Below w.heap.size w w' := by
  have g1 : decide (x < y) = true := by simp; omega
  have g2 : decide (y < x) = false := by simp; omega
  clear hr
  go_enter Try.func5, Try.ntmps5
  go_wp2_with (first
    | (go_at_call 11; refine (examples_ok _).mono ?_; rintro e w1 ⟨rfl, hb1⟩)
    | (go_at_call_of 20 (Value.int IntKind.i64 p); refine (EX.out _).mono ?_; rintro e w' ⟨rfl, rfl⟩)
    | (go_at_call_of 20 (Value.int IntKind.i64 q); refine (EY.out _).mono ?_; rintro e w' ⟨rfl, rfl⟩)
    | (go_at_call_of 14 (Value.int IntKind.i64 x); refine (K1.out _).mono ?_; rintro e w2 ⟨rfl, hb2⟩; have i2 := hb1.trans (hb2.mono hb1.size); have hX := Blk.new w2 23 #[.int .i64 a0, .int .i64 a1, .int .i64 a2, .int .i64 a3, .int .i64 a4, .int .i64 a5]; have i3 := i2.alloc i2.size (.cells #[.int .i64 a0, .int .i64 a1, .int .i64 a2, .int .i64 a3, .int .i64 a4, .int .i64 a5] 23))
    | (go_at_call_of 14 (Value.int IntKind.i64 y); refine (K2.out _).mono ?_; rintro e w4 ⟨rfl, hb4⟩; have hX4 := hX.below hb4 hX.lt; have i4 := i3.trans (hb4.mono i3.size); have hX5 := hX4.alloc (.cells #[.int .i64 b0, .int .i64 b1, .int .i64 b2, .int .i64 b3, .int .i64 b4, .int .i64 b5] 23); have hY := Blk.new w4 23 #[.int .i64 b0, .int .i64 b1, .int .i64 b2, .int .i64 b3, .int .i64 b4, .int .i64 b5]; have i5 := i4.alloc i4.size (.cells #[.int .i64 b0, .int .i64 b1, .int .i64 b2, .int .i64 b3, .int .i64 b4, .int .i64 b5] 23); have x0' : (w4.alloc (.cells #[.int .i64 b0, .int .i64 b1, .int .i64 b2, .int .i64 b3, .int .i64 b4, .int .i64 b5] 23)).cell? ⟨w2.heap.size, 0, none⟩ = some (.int .i64 a0) := hX5.cell 0; have x1' : (w4.alloc (.cells #[.int .i64 b0, .int .i64 b1, .int .i64 b2, .int .i64 b3, .int .i64 b4, .int .i64 b5] 23)).cell? ⟨w2.heap.size, 1, none⟩ = some (.int .i64 a1) := hX5.cell 1; have x2' : (w4.alloc (.cells #[.int .i64 b0, .int .i64 b1, .int .i64 b2, .int .i64 b3, .int .i64 b4, .int .i64 b5] 23)).cell? ⟨w2.heap.size, 2, none⟩ = some (.int .i64 a2) := hX5.cell 2; have x3' : (w4.alloc (.cells #[.int .i64 b0, .int .i64 b1, .int .i64 b2, .int .i64 b3, .int .i64 b4, .int .i64 b5] 23)).cell? ⟨w2.heap.size, 3, none⟩ = some (.int .i64 a3) := hX5.cell 3; have x4' : (w4.alloc (.cells #[.int .i64 b0, .int .i64 b1, .int .i64 b2, .int .i64 b3, .int .i64 b4, .int .i64 b5] 23)).cell? ⟨w2.heap.size, 4, none⟩ = some (.int .i64 a4) := hX5.cell 4; have x5' : (w4.alloc (.cells #[.int .i64 b0, .int .i64 b1, .int .i64 b2, .int .i64 b3, .int .i64 b4, .int .i64 b5] 23)).cell? ⟨w2.heap.size, 5, none⟩ = some (.int .i64 a5) := hX5.cell 5; have y0' : (w4.alloc (.cells #[.int .i64 b0, .int .i64 b1, .int .i64 b2, .int .i64 b3, .int .i64 b4, .int .i64 b5] 23)).cell? ⟨w4.heap.size, 0, none⟩ = some (.int .i64 b0) := hY.cell 0; have y1' : (w4.alloc (.cells #[.int .i64 b0, .int .i64 b1, .int .i64 b2, .int .i64 b3, .int .i64 b4, .int .i64 b5] 23)).cell? ⟨w4.heap.size, 1, none⟩ = some (.int .i64 b1) := hY.cell 1; have y2' : (w4.alloc (.cells #[.int .i64 b0, .int .i64 b1, .int .i64 b2, .int .i64 b3, .int .i64 b4, .int .i64 b5] 23)).cell? ⟨w4.heap.size, 2, none⟩ = some (.int .i64 b2) := hY.cell 2; have y3' : (w4.alloc (.cells #[.int .i64 b0, .int .i64 b1, .int .i64 b2, .int .i64 b3, .int .i64 b4, .int .i64 b5] 23)).cell? ⟨w4.heap.size, 3, none⟩ = some (.int .i64 b3) := hY.cell 3; have y4' : (w4.alloc (.cells #[.int .i64 b0, .int .i64 b1, .int .i64 b2, .int .i64 b3, .int .i64 b4, .int .i64 b5] 23)).cell? ⟨w4.heap.size, 4, none⟩ = some (.int .i64 b4) := hY.cell 4; have y5' : (w4.alloc (.cells #[.int .i64 b0, .int .i64 b1, .int .i64 b2, .int .i64 b3, .int .i64 b4, .int .i64 b5] 23)).cell? ⟨w4.heap.size, 5, none⟩ = some (.int .i64 b5) := hY.cell 5; clear hX hX4 hX5 hY)
    | (go_at_call 21; refine (K3.out _).mono ?_; rintro e w6 ⟨rfl, hb6⟩; have i6 := i5.trans (hb6.mono i5.size)))
  go_ret
  exact ⟨rfl, i6⟩
set_option maxRecDepth 100000 in
set_option maxHeartbeats 6400000 in
theorem rises_eq (p q x y : Int) (a0 a1 a2 a3 a4 a5 b0 b1 b2 b3 b4 b5 : Int) (hr : x = y) (EX : Hid (∀ w, Calls Try.prog 20 #[.int .i64 p] w fun e w' => e = .returned (.int .i64 x) ∧ w = w')) (EY : Hid (∀ w, Calls Try.prog 20 #[.int .i64 q] w fun e w' => e = .returned (.int .i64 y) ∧ w = w'))
    (K1 : Hid (∀ w, Calls Try.prog 14 #[.int .i64 x] w fun e w' => e = .returned (.tuple #[.agg #[.int .i64 a0, .int .i64 a1, .int .i64 a2, .int .i64 a3, .int .i64 a4, .int .i64 a5], .int .i64 0]) ∧ Below w.heap.size w w')) (K2 : Hid (∀ w, Calls Try.prog 14 #[.int .i64 y] w fun e w' => e = .returned (.tuple #[.agg #[.int .i64 b0, .int .i64 b1, .int .i64 b2, .int .i64 b3, .int .i64 b4, .int .i64 b5], .int .i64 0]) ∧ Below w.heap.size w w'))
    (K3 : Hid (∀ w, Calls Try.prog 21 #[.agg #[.int .i64 a0, .int .i64 a1, .int .i64 a2, .int .i64 a3, .int .i64 a4, .int .i64 a5], .agg #[.int .i64 b0, .int .i64 b1, .int .i64 b2, .int .i64 b3, .int .i64 b4, .int .i64 b5]] w fun e w' => e = .returned (.int .i64 0) ∧ Below w.heap.size w w')) (w : World) : Calls Try.prog 5 #[.int .i64 p, .int .i64 q] w fun e w' => e = .returned (.bool true) ∧ Below w.heap.size w w' := by
  have g1 : decide (x < y) = false := by simp; omega
  have g2 : decide (y < x) = false := by simp; omega
  clear hr
  go_enter Try.func5, Try.ntmps5
  go_wp2_with (first
    | (go_at_call 11; refine (examples_ok _).mono ?_; rintro e w1 ⟨rfl, hb1⟩)
    | (go_at_call_of 20 (Value.int IntKind.i64 p); refine (EX.out _).mono ?_; rintro e w' ⟨rfl, rfl⟩)
    | (go_at_call_of 20 (Value.int IntKind.i64 q); refine (EY.out _).mono ?_; rintro e w' ⟨rfl, rfl⟩)
    | (go_at_call_of 14 (Value.int IntKind.i64 x); refine (K1.out _).mono ?_; rintro e w2 ⟨rfl, hb2⟩; have i2 := hb1.trans (hb2.mono hb1.size); have hX := Blk.new w2 23 #[.int .i64 a0, .int .i64 a1, .int .i64 a2, .int .i64 a3, .int .i64 a4, .int .i64 a5]; have i3 := i2.alloc i2.size (.cells #[.int .i64 a0, .int .i64 a1, .int .i64 a2, .int .i64 a3, .int .i64 a4, .int .i64 a5] 23))
    | (go_at_call_of 14 (Value.int IntKind.i64 y); refine (K2.out _).mono ?_; rintro e w4 ⟨rfl, hb4⟩; have hX4 := hX.below hb4 hX.lt; have i4 := i3.trans (hb4.mono i3.size); have hX5 := hX4.alloc (.cells #[.int .i64 b0, .int .i64 b1, .int .i64 b2, .int .i64 b3, .int .i64 b4, .int .i64 b5] 23); have hY := Blk.new w4 23 #[.int .i64 b0, .int .i64 b1, .int .i64 b2, .int .i64 b3, .int .i64 b4, .int .i64 b5]; have i5 := i4.alloc i4.size (.cells #[.int .i64 b0, .int .i64 b1, .int .i64 b2, .int .i64 b3, .int .i64 b4, .int .i64 b5] 23); have x0' : (w4.alloc (.cells #[.int .i64 b0, .int .i64 b1, .int .i64 b2, .int .i64 b3, .int .i64 b4, .int .i64 b5] 23)).cell? ⟨w2.heap.size, 0, none⟩ = some (.int .i64 a0) := hX5.cell 0; have x1' : (w4.alloc (.cells #[.int .i64 b0, .int .i64 b1, .int .i64 b2, .int .i64 b3, .int .i64 b4, .int .i64 b5] 23)).cell? ⟨w2.heap.size, 1, none⟩ = some (.int .i64 a1) := hX5.cell 1; have x2' : (w4.alloc (.cells #[.int .i64 b0, .int .i64 b1, .int .i64 b2, .int .i64 b3, .int .i64 b4, .int .i64 b5] 23)).cell? ⟨w2.heap.size, 2, none⟩ = some (.int .i64 a2) := hX5.cell 2; have x3' : (w4.alloc (.cells #[.int .i64 b0, .int .i64 b1, .int .i64 b2, .int .i64 b3, .int .i64 b4, .int .i64 b5] 23)).cell? ⟨w2.heap.size, 3, none⟩ = some (.int .i64 a3) := hX5.cell 3; have x4' : (w4.alloc (.cells #[.int .i64 b0, .int .i64 b1, .int .i64 b2, .int .i64 b3, .int .i64 b4, .int .i64 b5] 23)).cell? ⟨w2.heap.size, 4, none⟩ = some (.int .i64 a4) := hX5.cell 4; have x5' : (w4.alloc (.cells #[.int .i64 b0, .int .i64 b1, .int .i64 b2, .int .i64 b3, .int .i64 b4, .int .i64 b5] 23)).cell? ⟨w2.heap.size, 5, none⟩ = some (.int .i64 a5) := hX5.cell 5; have y0' : (w4.alloc (.cells #[.int .i64 b0, .int .i64 b1, .int .i64 b2, .int .i64 b3, .int .i64 b4, .int .i64 b5] 23)).cell? ⟨w4.heap.size, 0, none⟩ = some (.int .i64 b0) := hY.cell 0; have y1' : (w4.alloc (.cells #[.int .i64 b0, .int .i64 b1, .int .i64 b2, .int .i64 b3, .int .i64 b4, .int .i64 b5] 23)).cell? ⟨w4.heap.size, 1, none⟩ = some (.int .i64 b1) := hY.cell 1; have y2' : (w4.alloc (.cells #[.int .i64 b0, .int .i64 b1, .int .i64 b2, .int .i64 b3, .int .i64 b4, .int .i64 b5] 23)).cell? ⟨w4.heap.size, 2, none⟩ = some (.int .i64 b2) := hY.cell 2; have y3' : (w4.alloc (.cells #[.int .i64 b0, .int .i64 b1, .int .i64 b2, .int .i64 b3, .int .i64 b4, .int .i64 b5] 23)).cell? ⟨w4.heap.size, 3, none⟩ = some (.int .i64 b3) := hY.cell 3; have y4' : (w4.alloc (.cells #[.int .i64 b0, .int .i64 b1, .int .i64 b2, .int .i64 b3, .int .i64 b4, .int .i64 b5] 23)).cell? ⟨w4.heap.size, 4, none⟩ = some (.int .i64 b4) := hY.cell 4; have y5' : (w4.alloc (.cells #[.int .i64 b0, .int .i64 b1, .int .i64 b2, .int .i64 b3, .int .i64 b4, .int .i64 b5] 23)).cell? ⟨w4.heap.size, 5, none⟩ = some (.int .i64 b5) := hY.cell 5; clear hX hX4 hX5 hY)
    | (go_at_call 21; refine (K3.out _).mono ?_; rintro e w6 ⟨rfl, hb6⟩; have i6 := i5.trans (hb6.mono i5.size)))
  go_ret
  exact ⟨rfl, i6⟩
set_option maxRecDepth 100000 in
set_option maxHeartbeats 6400000 in
theorem rises_gt (p q x y : Int) (a0 a1 a2 a3 a4 a5 b0 b1 b2 b3 b4 b5 : Int) (hr : y < x) (EX : Hid (∀ w, Calls Try.prog 20 #[.int .i64 p] w fun e w' => e = .returned (.int .i64 x) ∧ w = w')) (EY : Hid (∀ w, Calls Try.prog 20 #[.int .i64 q] w fun e w' => e = .returned (.int .i64 y) ∧ w = w'))
    (K1 : Hid (∀ w, Calls Try.prog 14 #[.int .i64 x] w fun e w' => e = .returned (.tuple #[.agg #[.int .i64 a0, .int .i64 a1, .int .i64 a2, .int .i64 a3, .int .i64 a4, .int .i64 a5], .int .i64 0]) ∧ Below w.heap.size w w')) (K2 : Hid (∀ w, Calls Try.prog 14 #[.int .i64 y] w fun e w' => e = .returned (.tuple #[.agg #[.int .i64 b0, .int .i64 b1, .int .i64 b2, .int .i64 b3, .int .i64 b4, .int .i64 b5], .int .i64 0]) ∧ Below w.heap.size w w'))
    (K3 : Hid (∀ w, Calls Try.prog 21 #[.agg #[.int .i64 a0, .int .i64 a1, .int .i64 a2, .int .i64 a3, .int .i64 a4, .int .i64 a5], .agg #[.int .i64 b0, .int .i64 b1, .int .i64 b2, .int .i64 b3, .int .i64 b4, .int .i64 b5]] w fun e w' => e = .returned (.int .i64 1) ∧ Below w.heap.size w w')) (w : World) : Calls Try.prog 5 #[.int .i64 p, .int .i64 q] w fun e w' => e = .returned (.bool true) ∧ Below w.heap.size w w' := by
  have g1 : decide (x < y) = false := by simp; omega
  have g2 : decide (y < x) = true := by simp; omega
  clear hr
  go_enter Try.func5, Try.ntmps5
  go_wp2_with (first
    | (go_at_call 11; refine (examples_ok _).mono ?_; rintro e w1 ⟨rfl, hb1⟩)
    | (go_at_call_of 20 (Value.int IntKind.i64 p); refine (EX.out _).mono ?_; rintro e w' ⟨rfl, rfl⟩)
    | (go_at_call_of 20 (Value.int IntKind.i64 q); refine (EY.out _).mono ?_; rintro e w' ⟨rfl, rfl⟩)
    | (go_at_call_of 14 (Value.int IntKind.i64 x); refine (K1.out _).mono ?_; rintro e w2 ⟨rfl, hb2⟩; have i2 := hb1.trans (hb2.mono hb1.size); have hX := Blk.new w2 23 #[.int .i64 a0, .int .i64 a1, .int .i64 a2, .int .i64 a3, .int .i64 a4, .int .i64 a5]; have i3 := i2.alloc i2.size (.cells #[.int .i64 a0, .int .i64 a1, .int .i64 a2, .int .i64 a3, .int .i64 a4, .int .i64 a5] 23))
    | (go_at_call_of 14 (Value.int IntKind.i64 y); refine (K2.out _).mono ?_; rintro e w4 ⟨rfl, hb4⟩; have hX4 := hX.below hb4 hX.lt; have i4 := i3.trans (hb4.mono i3.size); have hX5 := hX4.alloc (.cells #[.int .i64 b0, .int .i64 b1, .int .i64 b2, .int .i64 b3, .int .i64 b4, .int .i64 b5] 23); have hY := Blk.new w4 23 #[.int .i64 b0, .int .i64 b1, .int .i64 b2, .int .i64 b3, .int .i64 b4, .int .i64 b5]; have i5 := i4.alloc i4.size (.cells #[.int .i64 b0, .int .i64 b1, .int .i64 b2, .int .i64 b3, .int .i64 b4, .int .i64 b5] 23); have x0' : (w4.alloc (.cells #[.int .i64 b0, .int .i64 b1, .int .i64 b2, .int .i64 b3, .int .i64 b4, .int .i64 b5] 23)).cell? ⟨w2.heap.size, 0, none⟩ = some (.int .i64 a0) := hX5.cell 0; have x1' : (w4.alloc (.cells #[.int .i64 b0, .int .i64 b1, .int .i64 b2, .int .i64 b3, .int .i64 b4, .int .i64 b5] 23)).cell? ⟨w2.heap.size, 1, none⟩ = some (.int .i64 a1) := hX5.cell 1; have x2' : (w4.alloc (.cells #[.int .i64 b0, .int .i64 b1, .int .i64 b2, .int .i64 b3, .int .i64 b4, .int .i64 b5] 23)).cell? ⟨w2.heap.size, 2, none⟩ = some (.int .i64 a2) := hX5.cell 2; have x3' : (w4.alloc (.cells #[.int .i64 b0, .int .i64 b1, .int .i64 b2, .int .i64 b3, .int .i64 b4, .int .i64 b5] 23)).cell? ⟨w2.heap.size, 3, none⟩ = some (.int .i64 a3) := hX5.cell 3; have x4' : (w4.alloc (.cells #[.int .i64 b0, .int .i64 b1, .int .i64 b2, .int .i64 b3, .int .i64 b4, .int .i64 b5] 23)).cell? ⟨w2.heap.size, 4, none⟩ = some (.int .i64 a4) := hX5.cell 4; have x5' : (w4.alloc (.cells #[.int .i64 b0, .int .i64 b1, .int .i64 b2, .int .i64 b3, .int .i64 b4, .int .i64 b5] 23)).cell? ⟨w2.heap.size, 5, none⟩ = some (.int .i64 a5) := hX5.cell 5; have y0' : (w4.alloc (.cells #[.int .i64 b0, .int .i64 b1, .int .i64 b2, .int .i64 b3, .int .i64 b4, .int .i64 b5] 23)).cell? ⟨w4.heap.size, 0, none⟩ = some (.int .i64 b0) := hY.cell 0; have y1' : (w4.alloc (.cells #[.int .i64 b0, .int .i64 b1, .int .i64 b2, .int .i64 b3, .int .i64 b4, .int .i64 b5] 23)).cell? ⟨w4.heap.size, 1, none⟩ = some (.int .i64 b1) := hY.cell 1; have y2' : (w4.alloc (.cells #[.int .i64 b0, .int .i64 b1, .int .i64 b2, .int .i64 b3, .int .i64 b4, .int .i64 b5] 23)).cell? ⟨w4.heap.size, 2, none⟩ = some (.int .i64 b2) := hY.cell 2; have y3' : (w4.alloc (.cells #[.int .i64 b0, .int .i64 b1, .int .i64 b2, .int .i64 b3, .int .i64 b4, .int .i64 b5] 23)).cell? ⟨w4.heap.size, 3, none⟩ = some (.int .i64 b3) := hY.cell 3; have y4' : (w4.alloc (.cells #[.int .i64 b0, .int .i64 b1, .int .i64 b2, .int .i64 b3, .int .i64 b4, .int .i64 b5] 23)).cell? ⟨w4.heap.size, 4, none⟩ = some (.int .i64 b4) := hY.cell 4; have y5' : (w4.alloc (.cells #[.int .i64 b0, .int .i64 b1, .int .i64 b2, .int .i64 b3, .int .i64 b4, .int .i64 b5] 23)).cell? ⟨w4.heap.size, 5, none⟩ = some (.int .i64 b5) := hY.cell 5; clear hX hX4 hX5 hY)
    | (go_at_call 21; refine (K3.out _).mono ?_; rintro e w6 ⟨rfl, hb6⟩; have i6 := i5.trans (hb6.mono i5.size)))
  go_ret
  exact ⟨rfl, i6⟩
theorem rises_walk (p : Int) (_ : -9223372036854775808 ≤ p) (_ : p ≤ 9223372036854775807) (q : Int) (_ : -9223372036854775808 ≤ q) (_ : q ≤ 9223372036854775807) {w : World} : Calls Try.prog 5 #[.int .i64 p, .int .i64 q] w fun e w' => e = .returned (.bool true) ∧ Below w.heap.size w w' := by
  have x0 := pickP_lo p 3155760000 (by omega)
  have x1 := pickP_hi p 3155760000 (by omega)
  have y0 := pickP_lo q 3155760000 (by omega)
  have y1 := pickP_hi q 3155760000 (by omega)
  obtain ⟨x, ex⟩ : ∃ x, pickP p 3155760000 = x := ⟨_, rfl⟩
  obtain ⟨y, ey⟩ : ∃ y, pickP q 3155760000 = y := ⟨_, rfl⟩
  rw [ex] at x0 x1; rw [ey] at y0 y1
  have EX := Lib.hid fun w => moment_is p x w (by omega) (by omega) ex
  have EY := Lib.hid fun w => moment_is q y w (by omega) (by omega) ey
  obtain ⟨a0, a1, a2, a3, a4, a5, n, d1, p0, p1, p2, p3, p4, p5, hx, C1⟩ := parts x x0 (by omega)
  obtain ⟨b0, b1, b2, b3, b4, b5, n', d2, q0, q1, q2, q3, q4, q5, hy, C2⟩ := parts y y0 (by omega)
  have L : ∀ V0 : Int, ((V0 = -1 ∧ lexL a0 a1 a2 a3 a4 a5 b0 b1 b2 b3 b4 b5) ∨ (V0 = 0 ∧ (a0 = b0 ∧ a1 = b1 ∧ a2 = b2 ∧ a3 = b3 ∧ a4 = b4 ∧ a5 = b5)) ∨ (V0 = 1 ∧ lexL b0 b1 b2 b3 b4 b5 a0 a1 a2 a3 a4 a5)) → (V0 = -1 ∧ x < y) ∨ (V0 = 0 ∧ x = y) ∨ (V0 = 1 ∧ y < x) := by
    intro V0 h
    rcases h with ⟨h, l⟩ | ⟨h, l⟩ | ⟨h, l⟩
    · exact .inl ⟨h, lex_lt d1 d2 p0 p1 p2 p3 p4 p5 hx q0 q1 q2 q3 q4 q5 hy l⟩
    · obtain ⟨e0, e1, e2, e3, e4, e5⟩ := l
      obtain ⟨_, _, _, _, _, _, u6⟩ := d1
      obtain ⟨_, _, _, _, _, _, v6⟩ := d2
      subst e0 e1 e2 e3 e4 e5
      exact .inr (.inl ⟨h, by omega⟩)
    · exact .inr (.inr ⟨h, lex_lt d2 d1 q0 q1 q2 q3 q4 q5 hy p0 p1 p2 p3 p4 p5 hx l⟩)
  rcases Int.lt_trichotomy x y with hlt | heq | hgt
  · exact rises_lt p q x y a0 a1 a2 a3 a4 a5 b0 b1 b2 b3 b4 b5 hlt EX EY (Lib.hid C1) (Lib.hid C2) (Lib.hid fun w => (order_any a0 a1 a2 a3 a4 a5 b0 b1 b2 b3 b4 b5 w).mono fun e w' ⟨V, he, hb, hV⟩ => by
      have := L V hV
      have hv : V = -1 := by omega
      exact ⟨by rw [he, hv], hb⟩) w
  · exact rises_eq p q x y a0 a1 a2 a3 a4 a5 b0 b1 b2 b3 b4 b5 heq EX EY (Lib.hid C1) (Lib.hid C2) (Lib.hid fun w => (order_any a0 a1 a2 a3 a4 a5 b0 b1 b2 b3 b4 b5 w).mono fun e w' ⟨V, he, hb, hV⟩ => by
      have := L V hV
      have hv : V = 0 := by omega
      exact ⟨by rw [he, hv], hb⟩) w
  · exact rises_gt p q x y a0 a1 a2 a3 a4 a5 b0 b1 b2 b3 b4 b5 hgt EX EY (Lib.hid C1) (Lib.hid C2) (Lib.hid fun w => (order_any a0 a1 a2 a3 a4 a5 b0 b1 b2 b3 b4 b5 w).mono fun e w' ⟨V, he, hb, hV⟩ => by
      have := L V hV
      have hv : V = 1 := by omega
      exact ⟨by rw [he, hv], hb⟩) w
end Go.Proofs.Ytghmmomlfhckgaa
