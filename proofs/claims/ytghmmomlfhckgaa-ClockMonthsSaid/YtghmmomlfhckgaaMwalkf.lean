/-
  ClockMonths: the walk.
-/
import Derived.Test.YtghmmomlfhckgaaMonths
namespace Go.Proofs.Ytghmmomlfhckgaa
open Go.RowKit
set_option linter.unusedVariables false
set_option linter.unusedSimpArgs false
theorem conv4f (w : World) (x y z u : Int) (c : Nat) : (convert 44 9 (.slice (some ⟨w.heap.size, 0, none⟩) 4 c)).run Try.prog (w.alloc (.cells #[.int .u8 x, .int .u8 y, .int .u8 z, .int .u8 u] 5)) = .ok (.string (strOfNums [x, y, z, u])) (w.alloc (.cells #[.int .u8 x, .int .u8 y, .int .u8 z, .int .u8 u] 5)) :=
  run_convert_bytes_arg (P := Try.prog) _ 44 5 Try.underlying44 Try.underlying5 _ 0 4 c [x, y, z, u] rfl (fun i hi => by
    have h := (Blk.new w 5 #[.int .u8 x, .int .u8 y, .int .u8 z, .int .u8 u]).cell (0 + i)
    rw [h]
    obtain rfl | rfl | rfl | rfl : i = 0 ∨ i = 1 ∨ i = 2 ∨ i = 3 := by omega
    all_goals rfl) 9 Try.underlying9
set_option maxRecDepth 100000 in
set_option maxHeartbeats 6400000 in
theorem months_f (ya mo raw hr y n k E dd u0 u1 u4 u5 v0 v1 v2 v3 v4 v5 : Int) (st bus : ByteArray) (y0 : 0 ≤ y) (y1 : y ≤ 99) (n0 : 0 ≤ n) (n1 : n ≤ 11) (e0 : 0 ≤ E) (e1 : E = 3155759999) (k0 : 0 ≤ k) (k1 : k ≤ 3155759999) (hs : st.size = 10) (h : Int) (h0 : 0 < h) (h1 : h ≤ 23) (hv0 : 0 ≤ v3) (hv1 : v3 ≤ 23) (hv : v3 < h)
    (P1 : Hid (∀ w, Calls Try.prog 32 #[.int .i64 ya, .int .i64 100] w fun e w' => e = .returned (.int .i64 y) ∧ w = w'))
    (P2 : Hid (∀ w, Calls Try.prog 32 #[.int .i64 mo, .int .i64 12] w fun e w' => e = .returned (.int .i64 n) ∧ w = w'))
    (P3 : Hid (∀ w, Calls Try.prog 20 #[.int .i64 raw] w fun e w' => e = .returned (.int .i64 k) ∧ w = w'))
    (P4 : Hid (∀ w, Calls Try.prog 32 #[.int .i64 hr, .int .i64 24] w fun e w' => e = .returned (.int .i64 h) ∧ w = w'))
    (L : Hid (∀ w, Calls Try.prog 25 #[.string (strOfNums [48 + y / 10, 48 + y % 10, 48 + (1 + n) / 10, 48 + (1 + n) % 10])] w fun e w' => e = .returned (.tuple #[.int .i64 E, .int .i64 0]) ∧ Below w.heap.size w w'))
    (K1 : Hid (∀ w, Calls Try.prog 14 #[.int .i64 E] w fun e w' => e = .returned (.tuple #[.agg #[.int .i64 (2000 + y), .int .i64 (1 + n), .int .i64 dd, .int .i64 23, .int .i64 59, .int .i64 59], .int .i64 0]) ∧ Below w.heap.size w w'))
    (K2 : Hid (∀ w, Calls Try.prog 14 #[.int .i64 3155760000] w fun e w' => e = .returned (.tuple #[.agg #[.int .i64 0, .int .i64 0, .int .i64 0, .int .i64 0, .int .i64 0, .int .i64 0], .int .i64 80]) ∧ Below w.heap.size w w'))
    (K3 : Hid (∀ w, Calls Try.prog 14 #[.int .i64 k] w fun e w' => e = .returned (.tuple #[.agg #[.int .i64 v0, .int .i64 v1, .int .i64 v2, .int .i64 v3, .int .i64 v4, .int .i64 v5], .int .i64 0]) ∧ Below w.heap.size w w'))
    (B : Hid (∀ w, Calls Try.prog 30 #[.int .i64 k, .int .i64 h] w fun e w' => e = .returned (.tuple #[.string bus, .int .i64 0]) ∧ Below w.heap.size w w'))
    (S : Hid (∀ w, Calls Try.prog 22 #[.int .i64 k] w fun e w' => e = .returned (.tuple #[.string st, .int .i64 0]) ∧ Below w.heap.size w w'))
    (hx : st.extract 0 4 = bus) (w : World) : Calls Try.prog 10 #[.int .i64 ya, .int .i64 mo, .int .i64 raw, .int .i64 hr] w fun e w' => e = .returned (.bool true) ∧ Below w.heap.size w w' := by
  have T1 : y.tdiv 10 = y / 10 := Int.tdiv_eq_ediv_of_nonneg y0
  have T2 : y.tmod 10 = y % 10 := Int.tmod_eq_emod_of_nonneg y0
  have T3 : (1 + n).tdiv 10 = (1 + n) / 10 := Int.tdiv_eq_ediv_of_nonneg (by omega)
  have T4 : (1 + n).tmod 10 = (1 + n) % 10 := Int.tmod_eq_emod_of_nonneg (by omega)
  subst e1
  have gv : decide (h ≤ v3) = false := by simp; omega
  go_enter Try.func10, Try.ntmps10
  go_wp2_with (first
    | (go_at_call 11; refine (examples_ok _).mono ?_; rintro e w1 ⟨rfl, hb1⟩; have hcv := conv4f w1; have i1 := hb1.alloc hb1.size (.cells #[.int .u8 (48 + y / 10), .int .u8 (48 + y % 10), .int .u8 (48 + (1 + n) / 10), .int .u8 (48 + (1 + n) % 10)] 5))
    | (go_at_call_of 32 (Value.int IntKind.i64 100); refine (P1.out _).mono ?_; rintro e w' ⟨rfl, rfl⟩)
    | (go_at_call_of 32 (Value.int IntKind.i64 12); refine (P2.out _).mono ?_; rintro e w' ⟨rfl, rfl⟩)
    | (go_at_call_of 32 (Value.int IntKind.i64 24); refine (P4.out _).mono ?_; rintro e w' ⟨rfl, rfl⟩)
    | (go_at_call 25; refine (L.out _).mono ?_; rintro e w2 ⟨rfl, hb2⟩; clear hcv; have i2 := i1.trans (hb2.mono i1.size))
    | (go_at_call_of 14 (Value.int IntKind.i64 3155759999); refine (K1.out _).mono ?_; rintro e w3 ⟨rfl, hb3⟩; have i3 := i2.trans (hb3.mono i2.size); have hX := Blk.new w3 23 #[.int .i64 (2000 + y), .int .i64 (1 + n), .int .i64 dd, .int .i64 23, .int .i64 59, .int .i64 59]; have hg := i3.size; have i4 := i3.alloc i3.size (.cells #[.int .i64 (2000 + y), .int .i64 (1 + n), .int .i64 dd, .int .i64 23, .int .i64 59, .int .i64 59] 23))
    | (go_at_call 20; refine (P3.out _).mono ?_; rintro e w' ⟨rfl, rfl⟩)
    | (go_at_call 30; refine (B.out _).mono ?_; rintro e w5 ⟨rfl, hb5⟩; have hX6 := hX5.below hb5 hX5.lt; have i7 := i6.trans (hb5.mono i6.size))
    | (go_at_call_of 14 (Value.int IntKind.i64 k); refine (K3.out _).mono ?_; rintro e w6 ⟨rfl, hb6⟩; have hX7 := hX6.below hb6 hX6.lt; have i8 := i7.trans (hb6.mono i7.size); have x0 := hX7.cell 0; have x1 := hX7.cell 1; have x2 := hX7.cell 2; have x3 := hX7.cell 3; have x4 := hX7.cell 4; have x5 := hX7.cell 5; have f0 := hX7.frozen 0; have f1 := hX7.frozen 1; have f2 := hX7.frozen 2; have f3 := hX7.frozen 3; have f4 := hX7.frozen 4; have f5 := hX7.frozen 5; simp at x0 x1 x2 x3 x4 x5; have hX8 := hX7.store6 (.int .i64 v0) (.int .i64 v1) (.int .i64 v2) (.int .i64 v3) (.int .i64 v4) (.int .i64 v5); have z3 := hX8.cell 3; simp at z3; have i9 := below_store6 i8 hg (.int .i64 v0) (.int .i64 v1) (.int .i64 v2) (.int .i64 v3) (.int .i64 v4) (.int .i64 v5))
    | (go_at_call 14; refine (K2.out _).mono ?_; rintro e w4 ⟨rfl, hb4⟩; have hX4 := hX.below hb4 hX.lt; have i5 := i4.trans (hb4.mono i4.size); have hX5 := hX4.alloc (.cells #[.int .i64 0, .int .i64 0, .int .i64 0, .int .i64 0, .int .i64 0, .int .i64 0] 23); have i6 := i5.alloc i5.size (.cells #[.int .i64 0, .int .i64 0, .int .i64 0, .int .i64 0, .int .i64 0, .int .i64 0] 23))
    | (go_at_call 22; refine (S.out _).mono ?_; rintro e w7 ⟨rfl, hb7⟩; have i10 := i9.trans (hb7.mono i9.size)))
  go_ret
  exact ⟨rfl, i10⟩

end Go.Proofs.Ytghmmomlfhckgaa
