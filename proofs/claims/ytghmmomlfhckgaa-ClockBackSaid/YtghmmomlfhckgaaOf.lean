/-
  Of: the program's and the document's.
-/
import Derived.Test.YtghmmomlfhckgaaRrt
namespace Go.Proofs.Ytghmmomlfhckgaa
open Go.RowKit
set_option linter.unusedVariables false
set_option linter.unusedSimpArgs false
def Blk (w : World) (g : Nat) (t : TypeId) (cs : Array Value) : Prop := w.heap[g]? = some (.cells cs t (0, 0))
section
variable {w w' : World} {g : Nat} {t : TypeId} {cs : Array Value}
theorem Blk.lt (h : Blk w g t cs) : g < w.heap.size := by
  rcases Nat.lt_or_ge g w.heap.size with hlt | hge
  · exact hlt
  · unfold Blk at h; rw [Array.getElem?_eq_none hge] at h; cases h
theorem Blk.cell (h : Blk w g t cs) (i : Nat) : w.cell? ⟨g, i, none⟩ = cs[i]? := cell_of_row w g i cs t (0, 0) h
theorem Blk.frozen (h : Blk w g t cs) (i : Nat) : w.frozen? ⟨g, i, none⟩ = false := by
  unfold Blk at h
  simp [World.frozen?, h]
theorem Blk.new (w : World) (t : TypeId) (cs : Array Value) : Blk (w.alloc (.cells cs t)) w.heap.size t cs := heap_alloc_new w _
theorem Blk.drewN (h : Blk w g t cs) (n : Nat) : Blk (w.drewN n) g t cs := h
theorem Blk.alloc (h : Blk w g t cs) (o : Obj) : Blk (w.alloc o) g t cs := (Below.heap_alloc w o g h.lt).trans h
theorem Blk.set_ (h : Blk w g t cs) (i : Nat) (u : Value) : Blk (w.setCell ⟨g, i, none⟩ u) g t (cs.setIfInBounds i u) := by
  unfold Blk at h ⊢
  simp [World.setCell, Array.getElem?_modify, h]
theorem Blk.below {B : Nat} (h : Blk w g t cs) (hb : Below B w w') (hg : g < B) : Blk w' g t cs := (hb.block g hg).trans h
theorem Blk.far_ {b i : Nat} (hne : g ≠ b) (u : Value) (h : Blk w g t cs) : Blk (w.setCell ⟨b, i, none⟩ u) g t cs := (Below.heap_setCell w ⟨b, i, none⟩ u g hne).trans h
end

theorem of_no (y m d h i s : Int) (w : World) (v : vldB y m d h i s = false) : Calls Try.prog 12 #[.agg #[.int .i64 y, .int .i64 m, .int .i64 d, .int .i64 h, .int .i64 i, .int .i64 s]] w fun e w' => e = .returned (.tuple #[.int .i64 0, .int .i64 80]) ∧ Below w.heap.size w w' := by
  have V := Lib.hid v
  clear v
  go_enter Try.func12, Try.ntmps12
  go_wp2_with (go_at_call 33; refine (right_any y m d h i s _).mono ?_; rintro e w1 ⟨rfl, hb1⟩; rw [V.out])
  go_ret2
  exact ⟨rfl, ((Below.refl _ _).alloc (Nat.le_refl _) _).trans (hb1.mono (by simp))⟩
theorem of_yes (y m d h i s : Int) (w : World) (v : vldP y m d h i s) : Calls Try.prog 12 #[.agg #[.int .i64 y, .int .i64 m, .int .i64 d, .int .i64 h, .int .i64 i, .int .i64 s]] w fun e w' => e = .returned (.tuple #[.int .i64 ((bgn y + ahd y m + d - 1) * 86400 + h * 3600 + i * 60 + s), .int .i64 0]) ∧ Below w.heap.size w w' := by
  have V := Lib.hid (vldB_yes v)
  obtain ⟨v0, v1, v2, v3, v4, v5, v6, v7, v8, v9, v10, v11⟩ := v
  have u0 := ahd_lo y m
  have u1 := ahd_hi y m
  have u2 := bgn_lo y v0
  have u3 := bgn_hi y v0 (by omega)
  have u4 := dim_hi y m
  have W1 : IntKind.i64.wrap (bgn y + ahd y m) = bgn y + ahd y m := IntWalk.i64_in _ (by omega)
  have W2 : IntKind.i64.wrap (bgn y + ahd y m + d) = bgn y + ahd y m + d := IntWalk.i64_in _ (by omega)
  have W3 : IntKind.i64.wrap (bgn y + ahd y m + d - 1) = bgn y + ahd y m + d - 1 := IntWalk.i64_in _ (by omega)
  go_enter Try.func12, Try.ntmps12
  go_wp2_with (go_at_call 33; refine (right_any y m d h i s _).mono ?_; rintro e w1 ⟨rfl, hb1⟩; rw [V.out]; have hX := (Blk.new w 23 _).below hb1 (by simp); have x0 := hX.cell 0; have x1 := hX.cell 1; have x2 := hX.cell 2; have x3 := hX.cell 3; have x4 := hX.cell 4; have x5 := hX.cell 5; simp at x0 x1 x2 x3 x4 x5; clear hX)
  go_quiet ((first | (go_at_call 34; exact quiet_left (begins_any _ _ (by omega) (by omega))) | (go_at_call 35; exact quiet_left (ahead_any _ _ _))))
  clear W1 W2 W3
  go_wp2
  go_ret2
  exact ⟨rfl, below_drewN (((Below.refl _ _).alloc (Nat.le_refl _) _).trans (hb1.mono (by simp))) _⟩
theorem of_any (y m d h i s : Int) (w : World) : Calls Try.prog 12 #[.agg #[.int .i64 y, .int .i64 m, .int .i64 d, .int .i64 h, .int .i64 i, .int .i64 s]] w fun e w' => e = .returned (.tuple #[.int .i64 (ofV y m d h i s), .int .i64 (ofE y m d h i s)]) ∧ Below w.heap.size w w' := by
  by_cases v : vldP y m d h i s
  · have e1 : ofV y m d h i s = (bgn y + ahd y m + d - 1) * 86400 + h * 3600 + i * 60 + s := if_pos v
    have e2 : ofE y m d h i s = 0 := if_pos v
    rw [e1, e2]; exact of_yes y m d h i s w v
  · have e1 : ofV y m d h i s = 0 := if_neg v
    have e2 : ofE y m d h i s = 80 := if_neg v
    rw [e1, e2]; exact of_no y m d h i s w (vldB_no v)
end Go.Proofs.Ytghmmomlfhckgaa
