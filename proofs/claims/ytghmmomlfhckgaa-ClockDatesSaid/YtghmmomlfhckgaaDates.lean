/-
  ClockDates: the walk.
-/
import Derived.Test.YtghmmomlfhckgaaTells
import Derived.Lib.SmallJoins
namespace Go.Proofs.Ytghmmomlfhckgaa
open Go.RowKit
set_option linter.unusedVariables false
set_option linter.unusedSimpArgs false
theorem date_any (t : Int) : ∃ Y M D HH II SS E : Int, (∀ w, Calls Try.prog 14 #[.int .i64 t] w fun e w' => e = .returned (.tuple #[.agg #[.int .i64 Y, .int .i64 M, .int .i64 D, .int .i64 HH, .int .i64 II, .int .i64 SS], .int .i64 E]) ∧ Below w.heap.size w w') ∧ (∀ w, Calls Try.prog 15 #[.int .i64 t] w fun e w' => e = .returned (.tuple #[.agg #[.int .i64 Y, .int .i64 M, .int .i64 D, .int .i64 HH, .int .i64 II, .int .i64 SS], .int .i64 E]) ∧ Below w.heap.size w w') := by
  by_cases h : inT t
  · exact ⟨_, _, _, _, _, _, _, fun w => date_is t w h.1 h.2, fun w => rdate_is t w h.1 h.2⟩
  · have h' : t < 0 ∨ 3155759999 < t := by unfold inT at h; omega
    exact ⟨_, _, _, _, _, _, _, fun w => date_no t w h', fun w => rdate_no t w h'⟩
set_option maxRecDepth 100000 in
set_option maxHeartbeats 3200000 in
theorem dates_walk (y m d h i s : Int) (t : Int) {w : World} : Calls Try.prog 3 #[.agg #[.int .i64 y, .int .i64 m, .int .i64 d, .int .i64 h, .int .i64 i, .int .i64 s], .int .i64 t] w fun e w' => e = .returned (.bool true) ∧ Below w.heap.size w w' := by
  obtain ⟨Y, M, D, HH, II, SS, E, C1, C2⟩ := date_any t
  have K1 := Lib.hid C1
  have K2 := Lib.hid C2
  clear C1 C2
  obtain ⟨V, hV⟩ : ∃ V, ofV y m d h i s = V := ⟨_, rfl⟩
  obtain ⟨F, hF⟩ : ∃ F, ofE y m d h i s = F := ⟨_, rfl⟩
  have C3 := fun w => of_any y m d h i s w
  have C4 := fun w => rof_any y m d h i s w
  rw [hV, hF] at C3 C4
  have K3 := Lib.hid C3
  have K4 := Lib.hid C4
  clear C3 C4 hV hF
  go_enter Try.func3, Try.ntmps3
  go_wp2_with (first
    | (go_at_call 11; refine (examples_ok _).mono ?_; rintro e w1 ⟨rfl, hb1⟩; have hA := (Blk.new w 23 #[.int .i64 y, .int .i64 m, .int .i64 d, .int .i64 h, .int .i64 i, .int .i64 s]).below hb1 (by simp); have i1 := ((Below.refl w.heap.size w).alloc (Nat.le_refl _) (.cells #[.int .i64 y, .int .i64 m, .int .i64 d, .int .i64 h, .int .i64 i, .int .i64 s] 23)).trans (hb1.mono (by simp)); have a0 : (w1).cell? ⟨w.heap.size, 0, none⟩ = some (.int .i64 y) := hA.cell 0; have a1 : (w1).cell? ⟨w.heap.size, 1, none⟩ = some (.int .i64 m) := hA.cell 1; have a2 : (w1).cell? ⟨w.heap.size, 2, none⟩ = some (.int .i64 d) := hA.cell 2; have a3 : (w1).cell? ⟨w.heap.size, 3, none⟩ = some (.int .i64 h) := hA.cell 3; have a4 : (w1).cell? ⟨w.heap.size, 4, none⟩ = some (.int .i64 i) := hA.cell 4; have a5 : (w1).cell? ⟨w.heap.size, 5, none⟩ = some (.int .i64 s) := hA.cell 5)
    | (go_at_call 12; refine (K3.out _).mono ?_; rintro e w2 ⟨rfl, hb2⟩; have hA2 := hA.below hb2 hA.lt; have i2 := i1.trans (hb2.mono i1.size); have b0 : (w2).cell? ⟨w.heap.size, 0, none⟩ = some (.int .i64 y) := hA2.cell 0; have b1 : (w2).cell? ⟨w.heap.size, 1, none⟩ = some (.int .i64 m) := hA2.cell 1; have b2 : (w2).cell? ⟨w.heap.size, 2, none⟩ = some (.int .i64 d) := hA2.cell 2; have b3 : (w2).cell? ⟨w.heap.size, 3, none⟩ = some (.int .i64 h) := hA2.cell 3; have b4 : (w2).cell? ⟨w.heap.size, 4, none⟩ = some (.int .i64 i) := hA2.cell 4; have b5 : (w2).cell? ⟨w.heap.size, 5, none⟩ = some (.int .i64 s) := hA2.cell 5)
    | (go_at_call 13; refine (K4.out _).mono ?_; rintro e w3 ⟨rfl, hb3⟩; have hA3 := hA2.below hb3 hA2.lt; have i3 := i2.trans (hb3.mono i2.size))
    | (go_at_call 14; refine (K1.out _).mono ?_; rintro e w4 ⟨rfl, hb4⟩; have hA4 := hA3.below hb4 hA3.lt; have i4 := i3.trans (hb4.mono i3.size); have hD := Blk.new w4 23 #[.int .i64 Y, .int .i64 M, .int .i64 D, .int .i64 HH, .int .i64 II, .int .i64 SS]; have hA5 := hA4.alloc (.cells #[.int .i64 Y, .int .i64 M, .int .i64 D, .int .i64 HH, .int .i64 II, .int .i64 SS] 23); have i5 := i4.alloc i4.size (.cells #[.int .i64 Y, .int .i64 M, .int .i64 D, .int .i64 HH, .int .i64 II, .int .i64 SS] 23))
    | (go_at_call 15; refine (K2.out _).mono ?_; rintro e w5 ⟨rfl, hb5⟩; have hA6 := hA5.below hb5 hA5.lt; have hD6 := hD.below hb5 hD.lt; have i6 := i5.trans (hb5.mono i5.size); have hR := Blk.new w5 23 #[.int .i64 Y, .int .i64 M, .int .i64 D, .int .i64 HH, .int .i64 II, .int .i64 SS]; have hA7 := hA6.alloc (.cells #[.int .i64 Y, .int .i64 M, .int .i64 D, .int .i64 HH, .int .i64 II, .int .i64 SS] 23); have hD7 := hD6.alloc (.cells #[.int .i64 Y, .int .i64 M, .int .i64 D, .int .i64 HH, .int .i64 II, .int .i64 SS] 23); have i7 := i6.alloc i6.size (.cells #[.int .i64 Y, .int .i64 M, .int .i64 D, .int .i64 HH, .int .i64 II, .int .i64 SS] 23); have p0 : (w5.alloc (.cells #[.int .i64 Y, .int .i64 M, .int .i64 D, .int .i64 HH, .int .i64 II, .int .i64 SS] 23)).cell? ⟨w.heap.size, 0, none⟩ = some (.int .i64 y) := hA7.cell 0; have p1 : (w5.alloc (.cells #[.int .i64 Y, .int .i64 M, .int .i64 D, .int .i64 HH, .int .i64 II, .int .i64 SS] 23)).cell? ⟨w.heap.size, 1, none⟩ = some (.int .i64 m) := hA7.cell 1; have p2 : (w5.alloc (.cells #[.int .i64 Y, .int .i64 M, .int .i64 D, .int .i64 HH, .int .i64 II, .int .i64 SS] 23)).cell? ⟨w.heap.size, 2, none⟩ = some (.int .i64 d) := hA7.cell 2; have p3 : (w5.alloc (.cells #[.int .i64 Y, .int .i64 M, .int .i64 D, .int .i64 HH, .int .i64 II, .int .i64 SS] 23)).cell? ⟨w.heap.size, 3, none⟩ = some (.int .i64 h) := hA7.cell 3; have p4 : (w5.alloc (.cells #[.int .i64 Y, .int .i64 M, .int .i64 D, .int .i64 HH, .int .i64 II, .int .i64 SS] 23)).cell? ⟨w.heap.size, 4, none⟩ = some (.int .i64 i) := hA7.cell 4; have p5 : (w5.alloc (.cells #[.int .i64 Y, .int .i64 M, .int .i64 D, .int .i64 HH, .int .i64 II, .int .i64 SS] 23)).cell? ⟨w.heap.size, 5, none⟩ = some (.int .i64 s) := hA7.cell 5; have q0 : (w5.alloc (.cells #[.int .i64 Y, .int .i64 M, .int .i64 D, .int .i64 HH, .int .i64 II, .int .i64 SS] 23)).cell? ⟨w4.heap.size, 0, none⟩ = some (.int .i64 Y) := hD7.cell 0; have q1 : (w5.alloc (.cells #[.int .i64 Y, .int .i64 M, .int .i64 D, .int .i64 HH, .int .i64 II, .int .i64 SS] 23)).cell? ⟨w4.heap.size, 1, none⟩ = some (.int .i64 M) := hD7.cell 1; have q2 : (w5.alloc (.cells #[.int .i64 Y, .int .i64 M, .int .i64 D, .int .i64 HH, .int .i64 II, .int .i64 SS] 23)).cell? ⟨w4.heap.size, 2, none⟩ = some (.int .i64 D) := hD7.cell 2; have q3 : (w5.alloc (.cells #[.int .i64 Y, .int .i64 M, .int .i64 D, .int .i64 HH, .int .i64 II, .int .i64 SS] 23)).cell? ⟨w4.heap.size, 3, none⟩ = some (.int .i64 HH) := hD7.cell 3; have q4 : (w5.alloc (.cells #[.int .i64 Y, .int .i64 M, .int .i64 D, .int .i64 HH, .int .i64 II, .int .i64 SS] 23)).cell? ⟨w4.heap.size, 4, none⟩ = some (.int .i64 II) := hD7.cell 4; have q5 : (w5.alloc (.cells #[.int .i64 Y, .int .i64 M, .int .i64 D, .int .i64 HH, .int .i64 II, .int .i64 SS] 23)).cell? ⟨w4.heap.size, 5, none⟩ = some (.int .i64 SS) := hD7.cell 5; have r0 : (w5.alloc (.cells #[.int .i64 Y, .int .i64 M, .int .i64 D, .int .i64 HH, .int .i64 II, .int .i64 SS] 23)).cell? ⟨w5.heap.size, 0, none⟩ = some (.int .i64 Y) := hR.cell 0; have r1 : (w5.alloc (.cells #[.int .i64 Y, .int .i64 M, .int .i64 D, .int .i64 HH, .int .i64 II, .int .i64 SS] 23)).cell? ⟨w5.heap.size, 1, none⟩ = some (.int .i64 M) := hR.cell 1; have r2 : (w5.alloc (.cells #[.int .i64 Y, .int .i64 M, .int .i64 D, .int .i64 HH, .int .i64 II, .int .i64 SS] 23)).cell? ⟨w5.heap.size, 2, none⟩ = some (.int .i64 D) := hR.cell 2; have r3 : (w5.alloc (.cells #[.int .i64 Y, .int .i64 M, .int .i64 D, .int .i64 HH, .int .i64 II, .int .i64 SS] 23)).cell? ⟨w5.heap.size, 3, none⟩ = some (.int .i64 HH) := hR.cell 3; have r4 : (w5.alloc (.cells #[.int .i64 Y, .int .i64 M, .int .i64 D, .int .i64 HH, .int .i64 II, .int .i64 SS] 23)).cell? ⟨w5.heap.size, 4, none⟩ = some (.int .i64 II) := hR.cell 4; have r5 : (w5.alloc (.cells #[.int .i64 Y, .int .i64 M, .int .i64 D, .int .i64 HH, .int .i64 II, .int .i64 SS] 23)).cell? ⟨w5.heap.size, 5, none⟩ = some (.int .i64 SS) := hR.cell 5; clear hA hA2 hA3 hA4 hA5 hA6 hA7 hD hD6 hD7 hR))
  go_quiet ((first | (go_at_call 16; exact quiet_left (leap_any _ _)) | (go_at_call 17; exact quiet_left (rleap_any _ _))))
  go_wp2
  go_ret
  exact ⟨rfl, below_drewN i7 _⟩
section
open Go.Joins Go.ChangeShapes Go.WideShapes Go.RowKit Go.Deep
variable {H : Type} {enc : TypeId × Value → H} {w : World} {base : Nat} {spare : Nat → Bool} {held : Bool}
/-- A date handed over: six numbers. -/
theorem open_date {r : Reach} {b0 : Nat} {v : Value} {d : DataW H} {p : List MemPlace} (hv : Value.okWide Try.prog w r b0 23 v) (h : DataW.Trod enc Try.prog w base spare held 23 v d p) :
    ∃ a0 a1 a2 a3 a4 a5 : Int, v = .agg #[.int .i64 a0, .int .i64 a1, .int .i64 a2, .int .i64 a3, .int .i64 a4, .int .i64 a5] := by
  obtain ⟨cs, rfl, hsz⟩ := okWide_struct Try.underlying23 hv
  obtain ⟨l⟩ := cs
  have hC : Try.prog.cellsOf 23 = 6 := by kernel_rfl
  match l, hsz.trans hC with
  | [c0, c1, c2, c3, c4, c5], _ =>
    obtain ⟨fuel, hf⟩ := h
    obtain ⟨xs, n, _, hx, _, hlen, hg⟩ := DataW.trod_struct Try.underlying23 hf
    have h3 : Try.prog.cellsOf 3 = 1 := by kernel_rfl
    match xs, hlen with
    | [y0, y1, y2, y3, y4, y5], _ =>
      have t0 : DataW.trod enc Try.prog w base spare held n 3 [c0] = some y0 := by simpa [Value.cells, h3] using hg 0 _ rfl
      have t1 : DataW.trod enc Try.prog w base spare held n 3 [c1] = some y1 := by simpa [Value.cells, h3] using hg 1 _ rfl
      have t2 : DataW.trod enc Try.prog w base spare held n 3 [c2] = some y2 := by simpa [Value.cells, h3] using hg 2 _ rfl
      have t3 : DataW.trod enc Try.prog w base spare held n 3 [c3] = some y3 := by simpa [Value.cells, h3] using hg 3 _ rfl
      have t4 : DataW.trod enc Try.prog w base spare held n 3 [c4] = some y4 := by simpa [Value.cells, h3] using hg 4 _ rfl
      have t5 : DataW.trod enc Try.prog w base spare held n 3 [c5] = some y5 := by simpa [Value.cells, h3] using hg 5 _ rfl
      obtain ⟨z0, e0, _⟩ := DataW.trod_int Try.underlying3 t0
      obtain ⟨z1, e1, _⟩ := DataW.trod_int Try.underlying3 t1
      obtain ⟨z2, e2, _⟩ := DataW.trod_int Try.underlying3 t2
      obtain ⟨z3, e3, _⟩ := DataW.trod_int Try.underlying3 t3
      obtain ⟨z4, e4, _⟩ := DataW.trod_int Try.underlying3 t4
      obtain ⟨z5, e5, _⟩ := DataW.trod_int Try.underlying3 t5
      simp only [List.cons.injEq, and_true] at e0 e1 e2 e3 e4 e5
      subst e0 e1 e2 e3 e4 e5
      exact ⟨z0, z1, z2, z3, z4, z5, rfl⟩
end
end Go.Proofs.Ytghmmomlfhckgaa
