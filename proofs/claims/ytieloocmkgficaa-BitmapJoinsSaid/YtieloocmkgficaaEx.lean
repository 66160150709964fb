/-
  The chapter's example holds: examples() returns true.
-/
import Derived.Test.YtieloocmkgficaaOf
namespace Go.Proofs.Ytieloocmkgficaa
open Go.RowKit
set_option linter.unusedVariables false
set_option linter.unusedSimpArgs false
theorem ex_of (b c : Nat) (w : World) (hb : b < w.heap.size) (h0 : w.cell? ⟨b, 0, none⟩ = some (.int .i64 2)) (h1 : w.cell? ⟨b, 1, none⟩ = some (.int .i64 128)) :
    Calls Try.prog 21 #[.slice (some ⟨b, 0, none⟩) 2 c] w fun e w' => e = .returned (.tuple #[.agg #[.int .u64 4611686018427387904, .int .u64 1], .int .i64 0]) ∧ Below w.heap.size w w' := by
  have h := of_some b 0 c [2, 128] w (by decide) hb (fun i hi => by
    have hi2 : i = 0 ∨ i = 1 := by simp at hi; omega
    rcases hi2 with rfl | rfl
    · exact h0
    · exact h1)
  have e1 : iv (ofGo [2, 128] 0#64 0#64).1 = 4611686018427387904 := by decide +kernel
  have e2 : iv (ofGo [2, 128] 0#64 0#64).2.1 = 1 := by decide +kernel
  have e3 : (ofGo [2, 128] 0#64 0#64).2.2 = 0 := by decide +kernel
  rw [e1, e2, e3] at h
  exact h
theorem ex_enc (w : World) : Calls Try.prog 25 #[.int .i64 1, .agg #[.int .u64 4611686018427387904, .int .u64 1]] w fun e w' => e = .returned (.tuple #[.string { data := #[67, 48, 48, 48, 48, 48, 48, 48, 48, 48, 48, 48, 48, 48, 48, 48, 48, 48, 48, 48, 48, 48, 48, 48, 48, 48, 48, 48, 48, 48, 48, 49] }, .int .i64 0]) ∧ Below w.heap.size w w' := by
  have h := encode_any 1 (BitVec.twoPow 64 62) 1#64 w
  have e1 : iv (BitVec.twoPow 64 62) = 4611686018427387904 := by decide +kernel
  have e2 : iv 1#64 = 1 := by decide +kernel
  rw [e1, e2] at h
  have e3 : encodeV 1 4611686018427387904 1 = ({ data := #[67, 48, 48, 48, 48, 48, 48, 48, 48, 48, 48, 48, 48, 48, 48, 48, 48, 48, 48, 48, 48, 48, 48, 48, 48, 48, 48, 48, 48, 48, 48, 49] }, 0) := by decide +kernel
  rw [e3] at h
  exact h
theorem ex_dec (w : World) : Calls Try.prog 28 #[.int .i64 1, .string { data := #[67, 48, 48, 48, 48, 48, 48, 48, 48, 48, 48, 48, 48, 48, 48, 48, 48, 48, 48, 48, 48, 48, 48, 48, 48, 48, 48, 48, 48, 48, 48, 49, 120] }] w fun e w' => e = .returned (.tuple #[.agg #[.int .u64 4611686018427387904, .int .u64 1], .int .i64 0, .int .i64 32]) ∧ Below w.heap.size w w' := by
  have h := decode_any 1 { data := #[67, 48, 48, 48, 48, 48, 48, 48, 48, 48, 48, 48, 48, 48, 48, 48, 48, 48, 48, 48, 48, 48, 48, 48, 48, 48, 48, 48, 48, 48, 48, 49, 120] } w (by decide)
  have e3 : decodeV 1 { data := #[67, 48, 48, 48, 48, 48, 48, 48, 48, 48, 48, 48, 48, 48, 48, 48, 48, 48, 48, 48, 48, 48, 48, 48, 48, 48, 48, 48, 48, 48, 48, 49, 120] } = (4611686018427387904, 1, 0, 32) := by decide +kernel
  rw [e3] at h
  exact h
set_option maxRecDepth 100000 in
set_option maxHeartbeats 1600000 in
theorem examples_ok (w : World) : Calls Try.prog 11 #[] w fun e w' => e = .returned (.bool true) ∧ Below w.heap.size w w' := by
  go_enter Try.func11, Try.ntmps11
  go_wp2_with (first
    | (go_at_call 21; refine (ex_of _ _ _ (by simp) ((Blk.new w 3 #[.int .i64 2, .int .i64 128]).cell 0) ((Blk.new w 3 #[.int .i64 2, .int .i64 128]).cell 1)).mono ?_; rintro e w1 ⟨rfl, hb1⟩; have hB1 := ((Below.refl _ w).alloc (Nat.le_refl _) (.cells #[.int .i64 2, .int .i64 128] 3)).trans (hb1.mono (by simp)); have hX := Blk.new w1 24 #[.int .u64 4611686018427387904, .int .u64 1]; have hB2 := hB1.alloc hB1.size (.cells #[.int .u64 4611686018427387904, .int .u64 1] 24))
    | (go_at_call 25; refine (ex_enc _).mono ?_; rintro e w3 ⟨rfl, hb3⟩; have hX3 := hX.below hb3 (by simp); have hB3 := hB2.trans (hb3.mono hB2.size))
    | (go_at_call 28; refine (ex_dec _).mono ?_; rintro e w4 ⟨rfl, hb4⟩; have hX4 := hX3.below hb4 hX3.lt; have hB4 := hB3.trans (hb4.mono hB3.size); have x0 := hX4.cell 0; have x1 := hX4.cell 1; have xl := hX4.lt; simp at x0 x1; clear hX hX3 hX4))
  go_ret
  exact ⟨rfl, hB4.alloc hB4.size _⟩
end Go.Proofs.Ytieloocmkgficaa
