/-
  Numbers in digits: the program's written, the document's two and three.
-/
import Derived.Test.YtghmmomlfhckgaaDate
import Derived.Laws.BytesArg
import Derived.Lib.ConvBytes
namespace Go.Proofs.Ytghmmomlfhckgaa
open Go.RowKit
set_option linter.unusedVariables false
set_option linter.unusedSimpArgs false
theorem conv1 (w : World) (x : Int) (c : Nat) : (convert 44 9 (.slice (some ⟨w.heap.size, 0, none⟩) 1 c)).run Try.prog (w.alloc (.cells #[.int .u8 x] 5)) = .ok (.string (strOfNums [x])) (w.alloc (.cells #[.int .u8 x] 5)) :=
  run_convert_bytes_arg (P := Try.prog) _ 44 5 Try.underlying44 Try.underlying5 _ 0 1 c [x] rfl (fun i hi => by
    have h := (Blk.new w 5 #[.int .u8 x]).cell (0 + i)
    rw [h]
    obtain rfl : i = 0 := by omega
    rfl) 9 Try.underlying9
theorem conv2 (w : World) (x y : Int) (c : Nat) : (convert 44 9 (.slice (some ⟨w.heap.size, 0, none⟩) 2 c)).run Try.prog (w.alloc (.cells #[.int .u8 x, .int .u8 y] 5)) = .ok (.string (strOfNums [x, y])) (w.alloc (.cells #[.int .u8 x, .int .u8 y] 5)) :=
  run_convert_bytes_arg (P := Try.prog) _ 44 5 Try.underlying44 Try.underlying5 _ 0 2 c [x, y] rfl (fun i hi => by
    have h := (Blk.new w 5 #[.int .u8 x, .int .u8 y]).cell (0 + i)
    rw [h]
    have hi2 : i = 0 ∨ i = 1 := by omega
    rcases hi2 with rfl | rfl <;> rfl) 9 Try.underlying9
theorem conv3 (w : World) (x y z : Int) (c : Nat) : (convert 44 9 (.slice (some ⟨w.heap.size, 0, none⟩) 3 c)).run Try.prog (w.alloc (.cells #[.int .u8 x, .int .u8 y, .int .u8 z] 5)) = .ok (.string (strOfNums [x, y, z])) (w.alloc (.cells #[.int .u8 x, .int .u8 y, .int .u8 z] 5)) :=
  run_convert_bytes_arg (P := Try.prog) _ 44 5 Try.underlying44 Try.underlying5 _ 0 3 c [x, y, z] rfl (fun i hi => by
    have h := (Blk.new w 5 #[.int .u8 x, .int .u8 y, .int .u8 z]).cell (0 + i)
    rw [h]
    have hi2 : i = 0 ∨ i = 1 ∨ i = 2 := by omega
    rcases hi2 with rfl | rfl | rfl <;> rfl) 9 Try.underlying9
def d1 (n : Int) : ByteArray := strOfNums [48 + n % 10]
def d2 (n : Int) : ByteArray := strOfNums [48 + n / 10 % 10, 48 + n % 10]
def d3 (n : Int) : ByteArray := strOfNums [48 + n / 10 / 10 % 10, 48 + n / 10 % 10, 48 + n % 10]
theorem rtwo_any (n : Int) (w : World) (h0 : 0 ≤ n) (h1 : n ≤ 1000000) : Calls Try.prog 44 #[.int .i64 n] w fun e w' => e = .returned (.string (d2 n)) ∧ Below w.heap.size w w' := by
  have hcv := conv2 w
  go_enter Try.func44, Try.ntmps44
  go_wp2
  go_ret
  exact ⟨rfl, (Below.refl _ _).alloc (Nat.le_refl _) _⟩
theorem written_1 (n : Int) (w : World) (h0 : 0 ≤ n) (h1 : n ≤ 1000000) : Calls Try.prog 43 #[.int .i64 n, .int .i64 1] w fun e w' => e = .returned (.string (d1 n)) ∧ Below w.heap.size w w' := by
  have hmk : ∀ w, (Instr.makeSlice 44 (.int .i64 1) (.int .i64 1)).run Try.prog w = .ok (.slice (some ⟨w.heap.size, 0, none⟩) 1 1) (w.alloc (.cells #[.int .u8 0] 5)) := fun _ => by kernel_rfl
  have hcv := conv1 w
  go_enter Try.func43, Try.ntmps43
  go_wp2
  refine wp_loop_rounds 2 ?_
  rw [rounds_succ]
  go_wp2
  rw [rounds_succ]
  go_wp2
  go_ret
  exact ⟨rfl, (Below.refl _ _).alloc (Nat.le_refl _) _⟩
theorem written_2 (n : Int) (w : World) (h0 : 0 ≤ n) (h1 : n ≤ 1000000) : Calls Try.prog 43 #[.int .i64 n, .int .i64 2] w fun e w' => e = .returned (.string (d2 n)) ∧ Below w.heap.size w w' := by
  have hmk : ∀ w, (Instr.makeSlice 44 (.int .i64 2) (.int .i64 2)).run Try.prog w = .ok (.slice (some ⟨w.heap.size, 0, none⟩) 2 2) (w.alloc (.cells #[.int .u8 0, .int .u8 0] 5)) := fun _ => by kernel_rfl
  have hcv := conv2 w
  go_enter Try.func43, Try.ntmps43
  go_wp2
  refine wp_loop_rounds 3 ?_
  rw [rounds_succ]
  go_wp2
  rw [rounds_succ]
  go_wp2
  rw [rounds_succ]
  go_wp2
  go_ret
  exact ⟨rfl, (Below.refl _ _).alloc (Nat.le_refl _) _⟩
theorem written_3 (n : Int) (w : World) (h0 : 0 ≤ n) (h1 : n ≤ 1000000) : Calls Try.prog 43 #[.int .i64 n, .int .i64 3] w fun e w' => e = .returned (.string (d3 n)) ∧ Below w.heap.size w w' := by
  have hmk : ∀ w, (Instr.makeSlice 44 (.int .i64 3) (.int .i64 3)).run Try.prog w = .ok (.slice (some ⟨w.heap.size, 0, none⟩) 3 3) (w.alloc (.cells #[.int .u8 0, .int .u8 0, .int .u8 0] 5)) := fun _ => by kernel_rfl
  have hcv := conv3 w
  go_enter Try.func43, Try.ntmps43
  go_wp2
  refine wp_loop_rounds 4 ?_
  rw [rounds_succ]
  go_wp2
  rw [rounds_succ]
  go_wp2
  rw [rounds_succ]
  go_wp2
  rw [rounds_succ]
  go_wp2
  go_ret
  exact ⟨rfl, (Below.refl _ _).alloc (Nat.le_refl _) _⟩
theorem convAt (W : World) (b : Nat) (x : Int) (c : Nat) (h : W.cell? ⟨b, 0, none⟩ = some (.int .u8 x)) : (convert 44 9 (.slice (some ⟨b, 0, none⟩) 1 c)).run Try.prog W = .ok (.string (strOfNums [x])) W :=
  run_convert_bytes_arg (P := Try.prog) _ 44 5 Try.underlying44 Try.underlying5 _ 0 1 c [x] rfl (fun i hi => by
    obtain rfl : i = 0 := by omega
    exact h) 9 Try.underlying9
theorem son_append (xs ys : List Int) : strOfNums xs ++ strOfNums ys = strOfNums (xs ++ ys) := by
  apply ByteArray.ext
  simp [strOfNums, ByteArray.data_append]
theorem son_size (xs : List Int) : (strOfNums xs).size = xs.length := strOfNums_size xs
set_option maxHeartbeats 800000 in
theorem rthree_any (n : Int) (w : World) (h0 : 0 ≤ n) (h1 : n ≤ 1000000) : Calls Try.prog 45 #[.int .i64 n] w fun e w' => e = .returned (.string (d3 n)) ∧ Below w.heap.size w w' := by
  have T1 : n.tdiv 100 = n / 100 := Int.tdiv_eq_ediv_of_nonneg h0
  have T2 : IntKind.i64.wrap (n / 100) = n / 100 := IntWalk.i64_in _ (by omega)
  have T3 : (n / 100).tmod 10 = n / 100 % 10 := Int.tmod_eq_emod_of_nonneg (by omega)
  have T4 : IntKind.i64.wrap (48 + n / 100 % 10) = 48 + n / 100 % 10 := IntWalk.i64_in _ (by omega)
  have T5 : IntKind.u8.wrap (48 + n / 100 % 10) = 48 + n / 100 % 10 := IntWalk.u8_in _ (by omega)
  have S1 : (strOfNums [48 + n / 100 % 10]).size = 1 := rfl
  have S2 : (d2 n).size = 2 := rfl
  have E : Hid (strOfNums [48 + n / 100 % 10] ++ d2 n = d3 n) := by
    show _ = _
    unfold d2 d3
    rw [son_append, show n / 100 = n / 10 / 10 by omega]
    rfl
  have hcv : ∀ W : World, ∀ (x : Int) (c : Nat), (convert 44 9 (.slice (some ⟨W.heap.size, 0, none⟩) 1 c)).run Try.prog (W.alloc (.cells #[.int .u8 x] 5)) = .ok (.string (strOfNums [x])) (W.alloc (.cells #[.int .u8 x] 5)) := fun W => conv1 W
  have hcd : ∀ W : World, ∀ (x : Int) (c : Nat), (convert 44 9 (.slice (some ⟨W.heap.size, 0, none⟩) 1 c)).run Try.prog (W.alloc (.cells #[.int .u8 x] 5)).drew = .ok (.string (strOfNums [x])) (W.alloc (.cells #[.int .u8 x] 5)).drew := fun W x c => convAt _ _ _ _ ((Blk.new W 5 #[.int .u8 x]).cell 0)
  go_enter Try.func45, Try.ntmps45
  go_wp2
  go_region_with (go_at_call 44; refine (rtwo_any _ _ h0 h1).mono ?_; rintro e w' ⟨rfl, hb⟩; try (have hc2 := convAt w' w.heap.size (48 + n / 100 % 10) 1 ((hb.cell (p := ⟨w.heap.size, 0, none⟩) (by simp)).trans ((Blk.new w 5 #[.int .u8 (48 + n / 100 % 10)]).cell 0))); try (have hc3 := convAt w'.drew w.heap.size (48 + n / 100 % 10) 1 ((hb.cell (p := ⟨w.heap.size, 0, none⟩) (by simp)).trans ((Blk.new w 5 #[.int .u8 (48 + n / 100 % 10)]).cell 0))))
  all_goals
    clear hcv hcd T1 T2 T3 T4 T5
    go_wp2
    go_ret
    refine ⟨by rw [← E.out]; rfl, ?_⟩
    first
    | exact (((Below.refl _ _).alloc (Nat.le_refl _) _).drew).trans (hb.mono (by simp))
    | exact ((Below.refl _ _).trans hb).alloc hb.size _
    | exact ((((Below.refl _ _).drew).trans hb).alloc hb.size _)
    | trace_state
end Go.Proofs.Ytghmmomlfhckgaa
