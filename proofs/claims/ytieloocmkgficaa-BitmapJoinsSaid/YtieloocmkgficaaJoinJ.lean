/-
  BitmapJoins: the walk joined with the plain law.
-/
import Derived.Test.YtieloocmkgficaaJoinW
import Derived.Test.YtieloocmkgficaaSetsP
namespace Go.Proofs.Ytieloocmkgficaa
open Go.RowKit
set_option linter.unusedVariables false
theorem join_walk (F S F' S' : B64) (most : Int) (h1 : -9223372036854775808 ≤ most) (h2 : most ≤ 9223372036854775807) {w : World} :
    Calls Try.prog 10 #[.agg #[.int .u64 (iv F), .int .u64 (iv S)], .agg #[.int .u64 (iv F'), .int .u64 (iv S')], .int .i64 most] w fun e W' => e = .returned (.bool true) ∧ Below w.heap.size w W' := by
  have l0 := rowOf_len F S
  have l1 := rowOf_len F' S'
  refine join_run F S F' S' (pl (F &&& F')) (pl (S &&& S')) (pl (F &&& ~~~F')) (pl (S &&& ~~~S')) most ((rowOf F S).map Value.bool) ((rowOf F' S').map Value.bool)
    (.agg (rowA (joinK id (rowOf F S) (rowOf F' S') 129))) (.agg (rowA (joinK not (rowOf F S) (rowOf F' S') 129))) (nums F S).length (by rw [List.length_map]; exact l0) (by rw [List.length_map]; exact l1)
    (rowA_one _) (rowA_one _) rfl h1 h2 (Lib.hid fun w => row_any F S w) (Lib.hid fun w => row_any F' S' w) (Lib.hid fun w => and_any F S F' S' w) (Lib.hid fun w => rand_any _ _ l0 l1 w) (Lib.hid fun w => ?_)
    (Lib.hid fun w => less_any F S F' S' w) (Lib.hid fun w => rless_any _ _ l0 l1 w) (Lib.hid fun w => ?_) (Lib.hid fun w => ?_) (Lib.hid fun w => ?_) w
  · have := like_any (pl (F &&& F')) (pl (S &&& S')) _ (joinK_len id (rowOf F S) (rowOf F' S') 129) w; rwa [and_like] at this
  · have := like_any (pl (F &&& ~~~F')) (pl (S &&& ~~~S')) _ (joinK_len not (rowOf F S) (rowOf F' S') 129) w; rwa [less_like] at this
  · have := rnums_any (rowOf F S) l0 w; rwa [num_row] at this
  · have := len_any F S w; rwa [len_nums] at this
end Go.Proofs.Ytieloocmkgficaa
